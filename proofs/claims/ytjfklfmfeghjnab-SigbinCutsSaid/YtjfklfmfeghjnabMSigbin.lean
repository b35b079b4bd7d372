/- Plain laws on a signature's payload (layer 11): what reading comes to, in the program and in the reference. -/
import Derived.Test.YtjfklfmfeghjnabMSig
import Derived.Test.YtjfklfmfeghjnabMCursor
import Derived.Test.YtjfklfmfeghjnabPGx2
import Derived.Test.YtjfklfmfeghjnabPGx5
import Derived.Test.YtjfklfmfeghjnabPGx9
set_option linter.unusedVariables false
namespace Go.Proofs.Ytjfklfmfeghjnab.MSigbin
open Go.RowKit Go.Proofs.Ytjfklfmfeghjnab.PG Go.Proofs.Ytjfklfmfeghjnab.MSig Go.Proofs.Ytjfklfmfeghjnab.MBlob Go.Proofs.Ytjfklfmfeghjnab.MCursor Go.Proofs.YtjfklfmfeghjnabW.PrintWords Go.Proofs.YtjfklfmfeghjnabW.PrintLast Go.Proofs.YtjfklfmfeghjnabW.PrintMore Go.Proofs.YtjfklfmfeghjnabAid
open Go.Proofs.Ytjfklfmfeghjnab.MW (Byt wget wget_back wget_put wget_cut wget_err byt_bytesOf w64 wu64 wbytes_pos wbytes_byt)

abbrev gt (y : List Int) : ByteArray × Int × Int := bget y 32
abbrev tkT (s : ByteArray) (a e : Int) := tk nobytes gt s a e
abbrev tkN (most : Int) (s : ByteArray) (a e : Int) := tk (0 : Int) (gNum most) s a e
abbrev tkB (s : ByteArray) (a e : Int) := tk (0 : Int) gByte s a e

/-- So many bytes. -/
def tb (s : ByteArray) : Nat → Int → Int → List Int × Int × Int
  | 0, a, e => ([], a, e)
  | n + 1, a, e => ((tkB s a e).1 :: (tb s n (tkB s a e).2.1 (tkB s a e).2.2).1, (tb s n (tkB s a e).2.1 (tkB s a e).2.2).2)
/-- A predicate. -/
def tp (s : ByteArray) (a e : Int) : Pred × Int × Int :=
  (⟨(tkT s a e).1, (tb s (tkN 8 s (tkT s a e).2.1 (tkT s a e).2.2).1.toNat (tkN 8 s (tkT s a e).2.1 (tkT s a e).2.2).2.1 (tkN 8 s (tkT s a e).2.1 (tkT s a e).2.2).2.2).1⟩,
    (tb s (tkN 8 s (tkT s a e).2.1 (tkT s a e).2.2).1.toNat (tkN 8 s (tkT s a e).2.1 (tkT s a e).2.2).2.1 (tkN 8 s (tkT s a e).2.1 (tkT s a e).2.2).2.2).2)
/-- So many predicates. -/
def ts (s : ByteArray) : Nat → Int → Int → List Pred × Int × Int
  | 0, a, e => ([], a, e)
  | n + 1, a, e => ((tp s a e).1 :: (ts s n (tp s a e).2.1 (tp s a e).2.2).1, (ts s n (tp s a e).2.1 (tp s a e).2.2).2)
def fin (s : ByteArray) (l : List Pred) (a e : Int) : List Pred × Int :=
  if e = 0 then (if a < (s.size : Int) then ([], 4) else if check l = 0 then (l, 0) else ([], check l)) else ([], e)
def sget (s : ByteArray) : List Pred × Int := fin s (ts s (tkN 64 s 0 0).1.toNat (tkN 64 s 0 0).2.1 (tkN 64 s 0 0).2.2).1 (ts s (tkN 64 s 0 0).1.toNat (tkN 64 s 0 0).2.1 (tkN 64 s 0 0).2.2).2.1 (ts s (tkN 64 s 0 0).1.toNat (tkN 64 s 0 0).2.1 (tkN 64 s 0 0).2.2).2.2

/-! ### bounds -/
theorem gt_fits : Fits gt := bget_fits 32
theorem bT (s : ByteArray) (a e : Int) (hs : s.size ≤ 140737488355328) (h0 : 0 ≤ a) (h1 : a ≤ (s.size : Int)) : a ≤ (tkT s a e).2.1 ∧ (tkT s a e).2.1 ≤ (s.size : Int) ∧ (e ≠ 0 → (tkT s a e).2.1 = a ∧ (tkT s a e).2.2 = e) := tk_bounds nobytes gt_fits s a e hs h0 h1
theorem bN (most : Int) (s : ByteArray) (a e : Int) (hs : s.size ≤ 140737488355328) (h0 : 0 ≤ a) (h1 : a ≤ (s.size : Int)) : a ≤ (tkN most s a e).2.1 ∧ (tkN most s a e).2.1 ≤ (s.size : Int) ∧ (e ≠ 0 → (tkN most s a e).2.1 = a ∧ (tkN most s a e).2.2 = e) := tk_bounds (0 : Int) (gNum_fits most) s a e hs h0 h1
theorem bB (s : ByteArray) (a e : Int) (hs : s.size ≤ 140737488355328) (h0 : 0 ≤ a) (h1 : a ≤ (s.size : Int)) : a ≤ (tkB s a e).2.1 ∧ (tkB s a e).2.1 ≤ (s.size : Int) ∧ (e ≠ 0 → (tkB s a e).2.1 = a ∧ (tkB s a e).2.2 = e) := tk_bounds (0 : Int) gByte_fits s a e hs h0 h1
theorem tb_bounds (s : ByteArray) (hs : s.size ≤ 140737488355328) : ∀ (n : Nat) (a e : Int), 0 ≤ a → a ≤ (s.size : Int) → a ≤ (tb s n a e).2.1 ∧ (tb s n a e).2.1 ≤ (s.size : Int) ∧ (e ≠ 0 → (tb s n a e).2.1 = a ∧ (tb s n a e).2.2 = e)
  | 0, a, e => fun h0 h1 => ⟨Int.le_refl _, h1, fun _ => ⟨rfl, rfl⟩⟩
  | n + 1, a, e => fun h0 h1 => by
    obtain ⟨b1, b2, b3⟩ := bB s a e hs h0 h1
    obtain ⟨c1, c2, c3⟩ := tb_bounds s hs n (tkB s a e).2.1 (tkB s a e).2.2 (by omega) b2
    refine ⟨Int.le_trans b1 c1, c2, fun he => ?_⟩
    obtain ⟨d1, d2⟩ := b3 he
    obtain ⟨f1, f2⟩ := c3 (by rw [d2]; exact he)
    exact ⟨f1.trans d1, f2.trans d2⟩
theorem tp_bounds (s : ByteArray) (hs : s.size ≤ 140737488355328) (a e : Int) (h0 : 0 ≤ a) (h1 : a ≤ (s.size : Int)) : a ≤ (tp s a e).2.1 ∧ (tp s a e).2.1 ≤ (s.size : Int) ∧ (e ≠ 0 → (tp s a e).2.1 = a ∧ (tp s a e).2.2 = e) := by
  obtain ⟨b1, b2, b3⟩ := bT s a e hs h0 h1
  obtain ⟨c1, c2, c3⟩ := bN 8 s (tkT s a e).2.1 (tkT s a e).2.2 hs (by omega) b2
  obtain ⟨d1, d2, d3⟩ := tb_bounds s hs (tkN 8 s (tkT s a e).2.1 (tkT s a e).2.2).1.toNat (tkN 8 s (tkT s a e).2.1 (tkT s a e).2.2).2.1 (tkN 8 s (tkT s a e).2.1 (tkT s a e).2.2).2.2 (by omega) c2
  refine ⟨Int.le_trans b1 (Int.le_trans c1 d1), d2, fun he => ?_⟩
  obtain ⟨f1, f2⟩ := b3 he
  obtain ⟨g1, g2⟩ := c3 (by rw [f2]; exact he)
  obtain ⟨i1, i2⟩ := d3 (by rw [g2, f2]; exact he)
  exact ⟨i1.trans (g1.trans f1), i2.trans (g2.trans f2)⟩
theorem ts_bounds (s : ByteArray) (hs : s.size ≤ 140737488355328) : ∀ (n : Nat) (a e : Int), 0 ≤ a → a ≤ (s.size : Int) → a ≤ (ts s n a e).2.1 ∧ (ts s n a e).2.1 ≤ (s.size : Int) ∧ (e ≠ 0 → (ts s n a e).2.1 = a ∧ (ts s n a e).2.2 = e)
  | 0, a, e => fun h0 h1 => ⟨Int.le_refl _, h1, fun _ => ⟨rfl, rfl⟩⟩
  | n + 1, a, e => fun h0 h1 => by
    obtain ⟨b1, b2, b3⟩ := tp_bounds s hs a e h0 h1
    obtain ⟨c1, c2, c3⟩ := ts_bounds s hs n (tp s a e).2.1 (tp s a e).2.2 (by omega) b2
    refine ⟨Int.le_trans b1 c1, c2, fun he => ?_⟩
    obtain ⟨d1, d2⟩ := b3 he
    obtain ⟨f1, f2⟩ := c3 (by rw [d2]; exact he)
    exact ⟨f1.trans d1, f2.trans d2⟩

theorem num_val (s : ByteArray) (a e most : Int) (hm : 0 ≤ most) : 0 ≤ (tkN most s a e).1 ∧ (tkN most s a e).1 ≤ most := by
  unfold tkN tk
  by_cases he : e = 0
  · rw [if_pos he]
    by_cases h : (gNum most ((bytesOf s).drop a.toNat)).2.2 = 0
    · rw [if_pos h]
      have hy : Byt ((bytesOf s).drop a.toNat) := (byt_bytesOf s).drop _
      generalize (bytesOf s).drop a.toNat = y at h hy ⊢
      unfold gNum at h ⊢
      by_cases h1 : (wget y).2.2 = 0
      · rw [if_pos h1] at h ⊢
        by_cases h2 : (wget y).1 > most
        · rw [if_pos h2] at h
          exact absurd h (by intro h'; cases h')
        · rw [if_neg h2]
          obtain ⟨m, h3, _⟩ := wget_back hy (n := (wget y).1) (k := (wget y).2.1) (by rw [← h1])
          dsimp only
          omega
      · rw [if_neg h1] at h
        exact absurd h h1
    · rw [if_neg h]
      exact ⟨Int.le_refl _, hm⟩
  · rw [if_neg he]
    exact ⟨Int.le_refl _, hm⟩
theorem text_val (s : ByteArray) (a e : Int) : (tkT s a e).1.size ≤ 32 := by
  unfold tkT tk
  by_cases he : e = 0
  · rw [if_pos he]
    by_cases h : (gt ((bytesOf s).drop a.toNat)).2.2 = 0
    · rw [if_pos h]
      obtain ⟨_, _, _, h4⟩ := bget_back ((byt_bytesOf s).drop a.toNat) (most := 32) (t := (gt ((bytesOf s).drop a.toNat)).1) (n := (gt ((bytesOf s).drop a.toNat)).2.1) (by rw [← h])
      rw [if_neg (by omega)] at h4
      dsimp only
      omega
    · rw [if_neg h]
      exact Nat.zero_le _
  · rw [if_neg he]
    exact Nat.zero_le _
theorem byte_val (s : ByteArray) (a e : Int) : 0 ≤ (tkB s a e).1 ∧ (tkB s a e).1 < 256 := by
  unfold tkB tk
  by_cases he : e = 0
  · rw [if_pos he]
    have hy : Byt ((bytesOf s).drop a.toNat) := (byt_bytesOf s).drop _
    generalize (bytesOf s).drop a.toNat = y at hy ⊢
    unfold gByte
    by_cases h : y.length = 0
    · rw [if_pos h, if_neg (by decide)]
      exact ⟨Int.le_refl _, by dsimp only; omega⟩
    · rw [if_neg h, if_pos rfl]
      cases y with
      | nil => exact absurd rfl h
      | cons c r => exact hy c List.mem_cons_self
  · rw [if_neg he]
    exact ⟨Int.le_refl _, by dsimp only; omega⟩
theorem ts_short (s : ByteArray) : ∀ (n : Nat) (a e : Int), Short (ts s n a e).1
  | 0, a, e => fun _ h => by cases h
  | n + 1, a, e => fun p hp => by
    rcases List.mem_cons.1 hp with rfl | hp
    · have := text_val s a e
      show (tkT s a e).1.size < _
      omega
    · exact ts_short s n _ _ p hp

theorem textE (s : ByteArray) (a e : Int) (hs : s.size ≤ 140737488355328) (h0 : 0 ≤ a) (h1 : a ≤ (s.size : Int)) : Ev (fun k => cursor_Cursor_Text.f k s a e 32) ((tkT s a e).1, s, (tkT s a e).2.1, (tkT s a e).2.2) := text_ev s a e 32 (by omega) hs h0 h1
theorem numE (most : Int) (s : ByteArray) (a e : Int) (hs : s.size ≤ 140737488355328) (h0 : 0 ≤ a) (h1 : a ≤ (s.size : Int)) : Ev (fun k => cursor_Cursor_Number.f k s a e most) ((tkN most s a e).1, s, (tkN most s a e).2.1, (tkN most s a e).2.2) := number_ev s a e most hs h0 h1
theorem byteE (s : ByteArray) (a e : Int) (hs : s.size ≤ 140737488355328) (h0 : 0 ≤ a) (h1 : a ≤ (s.size : Int)) : Ev (fun _ => cursor_Cursor_Byte.f s a e) ((tkB s a e).1, s, (tkB s a e).2.1, (tkB s a e).2.2) := byte_ev s a e hs h0 h1

/-! ### the program -/
theorem pred_from (s : ByteArray) (hs : s.size ≤ 140737488355328) (n : Int) (hn : n ≤ 8) (nm : ByteArray) : ∀ (m i : Nat) (a e : Int) (acc : List Int), (m : Int) + i = n → 0 ≤ a → a ≤ (s.size : Int) → acc.length + m < 17592186044416 →
    Ev (fun k => sigbin_reader_pred.l0 k n (i : Int) s a e nm acc) (nm, acc ++ (tb s m a e).1, s, (tb s m a e).2.1, (tb s m a e).2.2)
  | 0, i, a, e, acc => fun h h0 h1 hl => by
    refine Ev.step (f := fun _ => some (nm, acc ++ (tb s 0 a e).1, s, (tb s 0 a e).2.1, (tb s 0 a e).2.2)) (fun k => ?_) (Ev.now _)
    simp only [sigbin_reader_pred.l0, tb, List.append_nil]
    rw [if_neg (by omega)]
  | m + 1, i, a, e, acc => fun h h0 h1 hl => by
    obtain ⟨b1, b2, _⟩ := bB s a e hs h0 h1
    have hv := byte_val s a e
    have ih := pred_from s hs n hn nm m (i + 1) (tkB s a e).2.1 (tkB s a e).2.2 (acc ++ [(tkB s a e).1]) (by omega) (by omega) b2 (by simp only [List.length_append, List.length_cons, List.length_nil]; omega)
    refine Ev.step (f := fun k => (cursor_Cursor_Byte.f s a e).bind fun b => if acc.length < 17592186044416 then sigbin_reader_pred.l0 k n ((i + 1 : Nat) : Int) b.2.1 b.2.2.1 b.2.2.2 nm (acc ++ [wrap64 b.1]) else none) (fun k => ?_) ?_
    · simp only [sigbin_reader_pred.l0]
      rw [if_pos (by omega), w64 (by omega) (by omega)]
      rfl
    · refine Ev.bind (byteE s a e hs h0 h1) ?_
      have hlt : acc.length < 17592186044416 := by omega
      simp only [if_pos hlt]
      rw [w64 (by omega) (by omega)]
      have e1 : acc ++ (tb s (m + 1) a e).1 = acc ++ [(tkB s a e).1] ++ (tb s m (tkB s a e).2.1 (tkB s a e).2.2).1 := by simp [tb]
      rw [e1]
      exact ih

theorem pred_ev (s : ByteArray) (hs : s.size ≤ 140737488355328) (a e z : Int) (h0 : 0 ≤ a) (h1 : a ≤ (s.size : Int)) : Ev (fun k => sigbin_reader_pred.f k s a e z) ((tp s a e).1.f0, (tp s a e).1.f1, s, (tp s a e).2.1, (tp s a e).2.2) := by
  unfold sigbin_reader_pred.f
  obtain ⟨b1, b2, _⟩ := bT s a e hs h0 h1
  refine Ev.bind (textE s a e hs h0 h1) ?_
  dsimp only
  obtain ⟨c1, c2, _⟩ := bN 8 s (tkT s a e).2.1 (tkT s a e).2.2 hs (by omega) b2
  refine Ev.bind (numE 8 s (tkT s a e).2.1 (tkT s a e).2.2 hs (by omega) b2) ?_
  dsimp only
  obtain ⟨v1, v2⟩ := num_val s (tkT s a e).2.1 (tkT s a e).2.2 8 (by omega)
  rw [w64 (by omega) (by omega)]
  have h := pred_from s hs (tkN 8 s (tkT s a e).2.1 (tkT s a e).2.2).1 v2 (tkT s a e).1 (tkN 8 s (tkT s a e).2.1 (tkT s a e).2.2).1.toNat 0 (tkN 8 s (tkT s a e).2.1 (tkT s a e).2.2).2.1 (tkN 8 s (tkT s a e).2.1 (tkT s a e).2.2).2.2 [] (by omega) (by omega) c2 (by simp only [List.length_nil]; omega)
  exact h

theorem get_from (s : ByteArray) (hs : s.size ≤ 140737488355328) (n z : Int) (hn : n ≤ 64) : ∀ (m i : Nat) (a e : Int) (acc : List Pred), (m : Int) + i = n → 0 ≤ a → a ≤ (s.size : Int) → acc.length + m < 3518437208883 → Short acc →
    Ev (fun k => sigbin_Get.l0 k acc n (i : Int) s a e z) (fin s (acc ++ (ts s m a e).1) (ts s m a e).2.1 (ts s m a e).2.2)
  | 0, i, a, e, acc => fun h h0 h1 hl hsh => by
    simp only [ts, List.append_nil]
    refine Ev.step (f := fun k => (some (if a < (s.size : Int) ∧ e = 0 then (false, s, a, 4) else (e == 0, s, a, e)) : Option (Bool × ByteArray × Int × Int)).bind fun d => if d.1 = true then (sig_Check.f k acc).bind fun t => (if t = 0 then some (acc, 0) else some ([], t)) else (cursor_Cursor_Err.f d.2.1 d.2.2.1 d.2.2.2).bind fun q => some ([], q.1)) (fun k => ?_) ?_
    · simp only [sigbin_Get.l0]
      rw [if_neg (by omega), done_eq s a e hs h0 h1]
    · simp only [Option.bind_some]
      unfold fin
      by_cases he : e = 0
      · rw [if_pos he]
        by_cases ha : a < (s.size : Int)
        · rw [if_pos ha]
          refine Ev.congr (f := fun _ => some ([], 4)) (fun k => ?_) (Ev.now _)
          have hD : (if a < (s.size : Int) ∧ e = 0 then (false, s, a, (4 : Int)) else (e == 0, s, a, e)) = (false, s, a, 4) := if_pos ⟨ha, he⟩
          rw [hD]
          rfl
        · rw [if_neg ha]
          refine Ev.congr (f := fun k => (sig_Check.f k acc).bind fun t => (if t = 0 then some (acc, 0) else some ([], t))) (fun k => ?_) ?_
          · have hD : (if a < (s.size : Int) ∧ e = 0 then (false, s, a, (4 : Int)) else (e == 0, s, a, e)) = (true, s, a, 0) := by rw [if_neg (fun h => ha h.1), he]; rfl
            rw [hD]
            rfl
          · refine Ev.bind (check_ev acc hsh) ?_
            by_cases hc : check acc = 0
            · simp only [if_pos hc]
              exact Ev.now _
            · simp only [if_neg hc]
              exact Ev.now _
      · rw [if_neg he]
        refine Ev.congr (f := fun _ => some ([], e)) (fun k => ?_) (Ev.now _)
        have hb : (e == 0) = false := beq_eq_false_iff_ne.mpr he
        have hD : (if a < (s.size : Int) ∧ e = 0 then (false, s, a, (4 : Int)) else (e == 0, s, a, e)) = (false, s, a, e) := by rw [if_neg (fun h => he h.2), hb]
        rw [hD]
        rfl
  | m + 1, i, a, e, acc => fun h h0 h1 hl hsh => by
    obtain ⟨b1, b2, _⟩ := tp_bounds s hs a e h0 h1
    have ih := get_from s hs n z hn m (i + 1) (tp s a e).2.1 (tp s a e).2.2 (acc ++ [(tp s a e).1]) (by omega) (by omega) b2 (by simp only [List.length_append, List.length_cons, List.length_nil]; omega) (fun p hp => by
      rcases List.mem_append.1 hp with hp | hp
      · exact hsh p hp
      · rw [List.mem_singleton.1 hp]
        have := text_val s a e
        show (tkT s a e).1.size < _
        omega)
    refine Ev.step (f := fun k => (sigbin_reader_pred.f k s a e z).bind fun b => if acc.length < 3518437208883 then sigbin_Get.l0 k (acc ++ [(⟨b.1, b.2.1⟩ : Pred)]) n ((i + 1 : Nat) : Int) b.2.2.1 b.2.2.2.1 b.2.2.2.2 z else none) (fun k => ?_) ?_
    · simp only [sigbin_Get.l0]
      rw [if_pos (by omega), w64 (by omega) (by omega)]
      rfl
    · refine Ev.bind (pred_ev s hs a e z h0 h1) ?_
      have hlt : acc.length < 3518437208883 := by omega
      simp only [if_pos hlt]
      have e1 : acc ++ (ts s (m + 1) a e).1 = acc ++ [(tp s a e).1] ++ (ts s m (tp s a e).2.1 (tp s a e).2.2).1 := by simp [ts]
      rw [e1]
      exact ih

theorem get_ev (l : List Int) (hl : l.length ≤ 140737488355328) : Ev (fun k => sigbin_Get.f k l) (sget (strOfNums l)) := by
  have hs : (strOfNums l).size ≤ 140737488355328 := by rw [strOfNums_size]; exact hl
  unfold sigbin_Get.f cursor_New.f sget
  simp only [Option.bind_some]
  refine Ev.bind (numE 64 (strOfNums l) 0 0 hs (by omega) (by omega)) ?_
  dsimp only
  obtain ⟨v1, v2⟩ := num_val (strOfNums l) 0 0 64 (by omega)
  obtain ⟨b1, b2, _⟩ := bN 64 (strOfNums l) 0 0 hs (by omega) (by omega)
  rw [w64 (by omega) (by omega)]
  have h := get_from (strOfNums l) hs (tkN 64 (strOfNums l) 0 0).1 771177 v2 (tkN 64 (strOfNums l) 0 0).1.toNat 0 (tkN 64 (strOfNums l) 0 0).2.1 (tkN 64 (strOfNums l) 0 0).2.2 [] (by omega) b1 b2 (by simp only [List.length_nil]; omega) (fun _ h => by cases h)
  exact h

/-! ### the reference -/
theorem gByte_at (s : ByteArray) (a : Int) (h0 : 0 ≤ a) (h1 : a < (s.size : Int)) : tkB s a 0 = (bt s a, a + 1, 0) := by
  have hl := bytesOf_length s
  have hd : ((bytesOf s).drop a.toNat).length ≠ 0 := by rw [List.length_drop]; omega
  have hr : rd ((bytesOf s).drop a.toNat) 0 = bt s a := by
    have h := rd_bytesOf s a.toNat
    rw [show ((a.toNat : Nat) : Int) = a by omega] at h
    rw [← h]
    simp [rd, List.getD_eq_getElem?_getD]
  unfold tkB tk gByte
  rw [if_pos rfl, if_neg hd, if_pos rfl, hr]
theorem gByte_end (s : ByteArray) (a : Int) (h1 : a = (s.size : Int)) : tkB s a 0 = (0, a, 2) := by
  have hl := bytesOf_length s
  have hd : ((bytesOf s).drop a.toNat).length = 0 := by rw [List.length_drop]; omega
  unfold tkB tk gByte
  rw [if_pos rfl, if_pos hd, if_neg (by decide)]

theorem rbytes_from (s : ByteArray) (hs : s.size ≤ 140737488355328) (x5 i : Int) (acc : List Pred) (n : Int) (hn : n ≤ 8) (nm : ByteArray) (V : Int → List Int → List Pred × Int) : ∀ (m j : Nat) (a : Int) (args : List Int), (m : Int) + j = n → 0 ≤ a → a ≤ (s.size : Int) → args.length + m < 17592186044416 → acc.length < 3518437208883 →
    (∀ a' args', 0 ≤ a' → a' ≤ (s.size : Int) → Ev (fun k => tachographref11_Get.l0 k s [] x5 a' (acc ++ [(⟨nm, args'⟩ : Pred)]) (wrap64 (i + 1))) (V a' args')) →
    Ev (fun k => tachographref11_Get.l1 k s [] x5 a acc i n (j : Int) nm args) (if (tb s m a 0).2.2 = 0 then V (tb s m a 0).2.1 (args ++ (tb s m a 0).1) else ([], (tb s m a 0).2.2))
  | 0, j, a, args => fun h h0 h1 hl ha hV => by
    simp only [tb, if_true, List.append_nil]
    refine Ev.step (f := fun k => tachographref11_Get.l0 k s [] x5 a (acc ++ [(⟨nm, args⟩ : Pred)]) (wrap64 (i + 1))) (fun k => ?_) (hV a args h0 h1)
    simp only [tachographref11_Get.l1]
    rw [w64 (by omega) (by omega), if_neg (by omega), if_pos ha]
  | m + 1, j, a, args => fun h h0 h1 hl ha hV => by
    by_cases he : a = (s.size : Int)
    · have e1 := gByte_end s a he
      obtain ⟨_, _, b3⟩ := tb_bounds s hs m a 2 h0 h1
      obtain ⟨c1, c2⟩ := b3 (by decide)
      simp only [tb, e1]
      rw [c2, if_neg (by decide)]
      refine Ev.step (f := fun _ => some ([], 2)) (fun k => ?_) (Ev.now _)
      simp only [tachographref11_Get.l1]
      rw [w64 (by omega) (by omega), if_pos (by omega), if_pos he]
    · have e1 := gByte_at s a h0 (by omega)
      have hb := bt_range s a
      have ih := rbytes_from s hs x5 i acc n hn nm V m (j + 1) (a + 1) (args ++ [bt s a]) (by omega) (by omega) (by omega) (by simp only [List.length_append, List.length_cons, List.length_nil]; omega) ha hV
      simp only [tb, e1]
      refine Ev.step (f := fun k => tachographref11_Get.l1 k s [] x5 (a + 1) acc i n ((j + 1 : Nat) : Int) nm (args ++ [bt s a])) (fun k => ?_) ?_
      · simp only [tachographref11_Get.l1]
        rw [w64 (by omega) (by omega), if_pos (by omega), if_neg he, if_pos h0, if_pos (by omega), if_pos (by omega), w64 (by omega) (by omega), w64 (by omega) (by omega), w64 (by omega) (by omega)]
        rfl
      · have e2 : args ++ [bt s a] ++ (tb s m (a + 1) 0).1 = args ++ bt s a :: (tb s m (a + 1) 0).1 := by simp
        rw [e2] at ih
        exact ih

theorem tkT_ok (s : ByteArray) (a : Int) (h : (gt ((bytesOf s).drop a.toNat)).2.2 = 0) : tkT s a 0 = ((gt ((bytesOf s).drop a.toNat)).1, a + (gt ((bytesOf s).drop a.toNat)).2.1, 0) := by
  unfold tkT tk
  rw [if_pos rfl, if_pos h]
theorem tkT_err (s : ByteArray) (a : Int) (h : (gt ((bytesOf s).drop a.toNat)).2.2 ≠ 0) : tkT s a 0 = (nobytes, a, (gt ((bytesOf s).drop a.toNat)).2.2) := by
  unfold tkT tk
  rw [if_pos rfl, if_neg h]
theorem tkN_ok (most : Int) (s : ByteArray) (a : Int) (h : (wget ((bytesOf s).drop a.toNat)).2.2 = 0) (h1 : ¬ (wget ((bytesOf s).drop a.toNat)).1 > most) : tkN most s a 0 = ((wget ((bytesOf s).drop a.toNat)).1, a + (wget ((bytesOf s).drop a.toNat)).2.1, 0) := by
  have e : gNum most ((bytesOf s).drop a.toNat) = wget ((bytesOf s).drop a.toNat) := by unfold gNum; rw [if_pos h, if_neg h1]
  unfold tkN tk
  rw [if_pos rfl, e, if_pos h]
theorem tkN_big (most : Int) (s : ByteArray) (a : Int) (h : (wget ((bytesOf s).drop a.toNat)).2.2 = 0) (h1 : (wget ((bytesOf s).drop a.toNat)).1 > most) : tkN most s a 0 = (0, a, 6) := by
  have e : gNum most ((bytesOf s).drop a.toNat) = ((wget ((bytesOf s).drop a.toNat)).1, (wget ((bytesOf s).drop a.toNat)).2.1, 6) := by unfold gNum; rw [if_pos h, if_pos h1]
  unfold tkN tk
  rw [if_pos rfl, e, if_neg (by intro h'; cases h')]
theorem tkN_err (most : Int) (s : ByteArray) (a : Int) (h : (wget ((bytesOf s).drop a.toNat)).2.2 ≠ 0) : tkN most s a 0 = (0, a, (wget ((bytesOf s).drop a.toNat)).2.2) := by
  have e : gNum most ((bytesOf s).drop a.toNat) = wget ((bytesOf s).drop a.toNat) := by unfold gNum; rw [if_neg h]
  unfold tkN tk
  rw [if_pos rfl, e, if_neg h]

theorem ext_at (s : ByteArray) (a : Int) (h0 : 0 ≤ a) (h1 : a ≤ (s.size : Int)) : bytesOf (s.extract a.toNat s.size) = (bytesOf s).drop a.toNat := ext_end s a h0 h1
theorem ext_size (s : ByteArray) (a : Int) : (s.extract a.toNat s.size).size ≤ s.size := by
  rw [ByteArray.size_extract]
  omega

/-- Behind an error nothing is read. -/
theorem fin_err (s : ByteArray) (hs : s.size ≤ 140737488355328) (m : Nat) (a e : Int) (acc : List Pred) (h0 : 0 ≤ a) (h1 : a ≤ (s.size : Int)) (he : e ≠ 0) : fin s (acc ++ (ts s m a e).1) (ts s m a e).2.1 (ts s m a e).2.2 = ([], e) := by
  obtain ⟨_, _, b⟩ := ts_bounds s hs m a e h0 h1
  obtain ⟨_, b2⟩ := b he
  unfold fin
  rw [b2, if_neg he]

theorem rget_from (s : ByteArray) (hs : s.size ≤ 140737488355328) (n : Int) (hn : n ≤ 64) : ∀ (m i : Nat) (a : Int) (acc : List Pred), (m : Int) + i = n → 0 ≤ a → a ≤ (s.size : Int) → acc.length + m < 3518437208883 → Short acc →
    Ev (fun k => tachographref11_Get.l0 k s [] n a acc (i : Int)) (fin s (acc ++ (ts s m a 0).1) (ts s m a 0).2.1 (ts s m a 0).2.2)
  | 0, i, a, acc => fun h h0 h1 hl hsh => by
    simp only [ts, List.append_nil]
    unfold fin
    rw [if_pos rfl]
    by_cases ha : a < (s.size : Int)
    · rw [if_pos ha]
      refine Ev.step (f := fun _ => some ([], 4)) (fun k => ?_) (Ev.now _)
      simp only [tachographref11_Get.l0]
      rw [w64 (by omega) (by omega), if_neg (by omega), if_pos ha]
    · rw [if_neg ha]
      refine Ev.step (f := fun k => (tachographref09_Check.f k acc).bind fun t => (if t = 0 then some (acc, 0) else some ([], t))) (fun k => ?_) ?_
      · simp only [tachographref11_Get.l0]
        rw [w64 (by omega) (by omega), if_neg (by omega), if_neg ha]
      · refine Ev.bind (rcheck_ev acc hsh) ?_
        by_cases hc : check acc = 0
        · simp only [if_pos hc]
          exact Ev.now _
        · simp only [if_neg hc]
          exact Ev.now _
  | m + 1, i, a, acc => fun h h0 h1 hl hsh => by
    obtain ⟨w, hw⟩ : ∃ w, gt ((bytesOf s).drop a.toNat) = w := ⟨_, rfl⟩
    refine Ev.step (f := fun k => (tachographref02_Get.f k (s.extract (a : Int).toNat s.size) 32).bind fun bt214 => (if bt214.2.2 = 0 then (if 0 ≤ (wrap64 (a + bt214.2.1)) then (if (wrap64 (a + bt214.2.1)) ≤ (s.size : Int) then ((tachographref01_Get.f k (s.extract ((wrap64 (a + bt214.2.1)) : Int).toNat s.size)).bind fun bt217 => (if bt217.2.2 = 0 then (if bt217.1 > 8 then (some ([], 6)) else (tachographref11_Get.l1 k s [] n (wrap64 ((wrap64 (a + bt214.2.1)) + bt217.2.1)) acc (i : Int) bt217.1 0 bt214.1 ([] : List Int))) else (some ([], bt217.2.2)))) else (none)) else (none)) else (some ([], bt214.2.2)))) (fun k => ?_) ?_
    · simp only [tachographref11_Get.l0]
      rw [w64 (by omega) (by omega), if_pos (by omega), if_pos h0, if_pos h1]
    · have hr := refget_ev (s.extract a.toNat s.size) (Nat.le_trans (ext_size s a) hs) 32 (by omega)
      rw [ext_at s a h0 h1, show bget ((bytesOf s).drop a.toNat) 32 = w from hw] at hr
      refine Ev.bind hr ?_
      by_cases hw0 : w.2.2 = 0
      · have hT := tkT_ok s a (by rw [hw]; exact hw0)
        rw [hw] at hT
        have hbT := bT s a 0 hs h0 h1
        rw [hT] at hbT
        obtain ⟨t1, t2, _⟩ := hbT
        dsimp only at t1 t2
        have ht3 := text_val s a 0
        rw [hT] at ht3
        dsimp only at ht3
        have hwr : wrap64 (a + w.2.1) = a + w.2.1 := w64 (by omega) (by omega)
        simp only [if_pos hw0, hwr, if_pos (show 0 ≤ a + w.2.1 by omega), if_pos t2]
        have hr2 := MW.refget_ev (s.extract (a + w.2.1).toNat s.size) (Nat.le_trans (ext_size s (a + w.2.1)) hs)
        rw [ext_at s (a + w.2.1) (by omega) t2] at hr2
        obtain ⟨v, hv⟩ : ∃ v, wget ((bytesOf s).drop (a + w.2.1).toNat) = v := ⟨_, rfl⟩
        rw [hv] at hr2
        refine Ev.bind hr2 ?_
        by_cases hv0 : v.2.2 = 0
        · by_cases hv8 : v.1 > 8
          · have hN := tkN_big 8 s (a + w.2.1) (by rw [hv]; exact hv0) (by rw [hv]; exact hv8)
            obtain ⟨c1, c2, c3⟩ := tb_bounds s hs 0 (a + w.2.1) 6 (by omega) t2
            have hp : tp s a 0 = (⟨w.1, []⟩, a + w.2.1, 6) := by
              unfold tp
              rw [hT]
              dsimp only
              rw [hN]
              rfl
            simp only [ts, hp, if_pos hv0, if_pos hv8]
            rw [show acc ++ (⟨w.1, []⟩ : Pred) :: (ts s m (a + w.2.1) 6).1 = (acc ++ [(⟨w.1, []⟩ : Pred)]) ++ (ts s m (a + w.2.1) 6).1 by simp, fin_err s hs m (a + w.2.1) 6 _ (by omega) t2 (by decide)]
            exact Ev.now _
          · have hN := tkN_ok 8 s (a + w.2.1) (by rw [hv]; exact hv0) (by rw [hv]; exact hv8)
            rw [hv] at hN
            have hbN := bN 8 s (a + w.2.1) 0 hs (by omega) t2
            rw [hN] at hbN
            obtain ⟨n1, n2, _⟩ := hbN
            dsimp only at n1 n2
            have hvv := num_val s (a + w.2.1) 0 8 (by omega)
            rw [hN] at hvv
            dsimp only at hvv
            have hwr2 : wrap64 (a + w.2.1 + v.2.1) = a + w.2.1 + v.2.1 := w64 (by omega) (by omega)
            simp only [if_pos hv0, if_neg hv8, hwr2]
            have hp : tp s a 0 = (⟨w.1, (tb s v.1.toNat (a + w.2.1 + v.2.1) 0).1⟩, (tb s v.1.toNat (a + w.2.1 + v.2.1) 0).2) := by
              unfold tp
              rw [hT]
              dsimp only
              rw [hN]
            have hq := rbytes_from s hs n (i : Int) acc v.1 (by omega) w.1 (fun a' args' => fin s (acc ++ [(⟨w.1, args'⟩ : Pred)] ++ (ts s m a' 0).1) (ts s m a' 0).2.1 (ts s m a' 0).2.2) v.1.toNat 0 (a + w.2.1 + v.2.1) [] (by omega) (by omega) n2 (by simp only [List.length_nil]; omega) (by omega) (fun a' args' g0 g1 => by
              rw [w64 (by omega) (by omega)]
              exact rget_from s hs n hn m (i + 1) a' (acc ++ [(⟨w.1, args'⟩ : Pred)]) (by omega) g0 g1 (by simp only [List.length_append, List.length_cons, List.length_nil]; omega) (fun p hp => by
                rcases List.mem_append.1 hp with hp | hp
                · exact hsh p hp
                · rw [List.mem_singleton.1 hp]
                  show w.1.size < _
                  omega))
            obtain ⟨d1, d2, d3⟩ := tb_bounds s hs v.1.toNat (a + w.2.1 + v.2.1) 0 (by omega) n2
            have hres : fin s (acc ++ (ts s (m + 1) a 0).1) (ts s (m + 1) a 0).2.1 (ts s (m + 1) a 0).2.2 = (if (tb s v.1.toNat (a + w.2.1 + v.2.1) 0).2.2 = 0 then fin s (acc ++ [(⟨w.1, [] ++ (tb s v.1.toNat (a + w.2.1 + v.2.1) 0).1⟩ : Pred)] ++ (ts s m (tb s v.1.toNat (a + w.2.1 + v.2.1) 0).2.1 0).1) (ts s m (tb s v.1.toNat (a + w.2.1 + v.2.1) 0).2.1 0).2.1 (ts s m (tb s v.1.toNat (a + w.2.1 + v.2.1) 0).2.1 0).2.2 else ([], (tb s v.1.toNat (a + w.2.1 + v.2.1) 0).2.2)) := by
              simp only [ts, hp, List.nil_append]
              generalize tb s v.1.toNat (a + w.2.1 + v.2.1) 0 = z at d1 d2
              obtain ⟨z1, z2, z3⟩ := z
              dsimp only at d1 d2 ⊢
              rw [show acc ++ (⟨w.1, z1⟩ : Pred) :: (ts s m z2 z3).1 = (acc ++ [(⟨w.1, z1⟩ : Pred)]) ++ (ts s m z2 z3).1 by simp]
              by_cases hz : z3 = 0
              · rw [if_pos hz, hz]
              · rw [if_neg hz, fin_err s hs m z2 z3 _ (by omega) d2 hz]
            rw [hres]
            exact hq
        · have hN := tkN_err 8 s (a + w.2.1) (by rw [hv]; exact hv0)
          rw [hv] at hN
          have hp : tp s a 0 = (⟨w.1, []⟩, a + w.2.1, v.2.2) := by
            unfold tp
            rw [hT]
            dsimp only
            rw [hN]
            rfl
          simp only [ts, hp, if_neg hv0]
          rw [show acc ++ (⟨w.1, []⟩ : Pred) :: (ts s m (a + w.2.1) v.2.2).1 = (acc ++ [(⟨w.1, []⟩ : Pred)]) ++ (ts s m (a + w.2.1) v.2.2).1 by simp, fin_err s hs m (a + w.2.1) v.2.2 _ (by omega) t2 hv0]
          exact Ev.now _
      · have hT := tkT_err s a (by rw [hw]; exact hw0)
        rw [hw] at hT
        obtain ⟨_, _, b3⟩ := tp_bounds s hs a w.2.2 h0 h1
        have hp2 : (tp s a 0).2 = (a, w.2.2) := by
          have h4 : (tp s a w.2.2).2 = (a, w.2.2) := by
            obtain ⟨b4, b5⟩ := b3 hw0
            exact Prod.ext b4 b5
          have h5 : tkT s a w.2.2 = (nobytes, a, w.2.2) := by
            unfold tkT tk
            rw [if_neg hw0]
          rw [← h4]
          unfold tp
          rw [hT, h5]
        simp only [ts, if_neg hw0]
        rw [show acc ++ (tp s a 0).1 :: (ts s m (tp s a 0).2.1 (tp s a 0).2.2).1 = (acc ++ [(tp s a 0).1]) ++ (ts s m (tp s a 0).2.1 (tp s a 0).2.2).1 by simp, hp2]
        dsimp only
        rw [fin_err s hs m a w.2.2 _ h0 h1 hw0]
        exact Ev.now _

theorem rget_ev (s : ByteArray) (hs : s.size ≤ 140737488355328) : Ev (fun k => tachographref11_Get.f k s) (sget s) := by
  unfold tachographref11_Get.f
  simp only [Option.bind_some]
  have hr := MW.refget_ev s hs
  obtain ⟨v, hv⟩ : ∃ v, wget (bytesOf s) = v := ⟨_, rfl⟩
  rw [hv] at hr
  have hd : (bytesOf s).drop (0 : Int).toNat = bytesOf s := rfl
  refine Ev.bind hr ?_
  unfold sget
  by_cases hv0 : v.2.2 = 0
  · by_cases hv64 : v.1 > 64
    · have hN := tkN_big 64 s 0 (by rw [hd, hv]; exact hv0) (by rw [hd, hv]; exact hv64)
      simp only [if_pos hv0, if_pos hv64]
      rw [hN]
      exact Ev.now _
    · have hN := tkN_ok 64 s 0 (by rw [hd, hv]; exact hv0) (by rw [hd, hv]; exact hv64)
      rw [hd, hv] at hN
      have hbN := bN 64 s 0 0 hs (by omega) (by omega)
      rw [hN] at hbN
      obtain ⟨n1, n2, _⟩ := hbN
      dsimp only at n1 n2
      have hvv := num_val s 0 0 64 (by omega)
      rw [hN] at hvv
      dsimp only at hvv
      simp only [if_pos hv0, if_neg hv64]
      rw [hN]
      dsimp only
      have h := rget_from s hs v.1 (by omega) v.1.toNat 0 (0 + v.2.1) [] (by omega) (by omega) n2 (by simp only [List.length_nil]; omega) (fun _ h => by cases h)
      rw [show (0 : Int) + v.2.1 = v.2.1 by omega] at h ⊢
      exact h
  · have hN := tkN_err 64 s 0 (by rw [hd, hv]; exact hv0)
    rw [hd, hv] at hN
    simp only [if_neg hv0]
    rw [hN]
    dsimp only
    refine Ev.congr (f := fun _ => some ([], v.2.2)) (fun k => rfl) ?_
    have : fin s (ts s (0 : Int).toNat 0 v.2.2).1 (ts s (0 : Int).toNat 0 v.2.2).2.1 (ts s (0 : Int).toNat 0 v.2.2).2.2 = ([], v.2.2) := fin_err s hs 0 0 v.2.2 [] (by omega) (by omega) hv0
    rw [this]
    exact Ev.now _
end Go.Proofs.Ytjfklfmfeghjnab.MSigbin
