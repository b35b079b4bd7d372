/- Plain laws on a cursor (layer 3). -/
import Derived.Test.YtjfklfmfeghjnabMBlob
import Derived.Test.YtjfklfmfeghjnabPGx2
import Derived.Test.YtjfklfmfeghjnabPGx3
import Derived.Test.YtjfklfmfeghjnabPGx4
import Derived.Test.YtjfklfmfeghjnabPGx5
set_option linter.unusedVariables false
namespace Go.Proofs.Ytjfklfmfeghjnab.MCursor
open Go.RowKit Go.Proofs.Ytjfklfmfeghjnab.PG Go.Proofs.Ytjfklfmfeghjnab.MW Go.Proofs.Ytjfklfmfeghjnab.MBlob Go.Proofs.YtjfklfmfeghjnabW.PrintWords Go.Proofs.YtjfklfmfeghjnabW.PrintLast Go.Proofs.YtjfklfmfeghjnabW.PrintMore Go.Proofs.YtjfklfmfeghjnabAid

/-- A read at a cursor: what it answers, its place, its error. -/
def tk {τ : Type} (none_ : τ) (G : List Int → τ × Int × Int) (s : ByteArray) (at_ e : Int) : τ × Int × Int :=
  if e = 0 then (if (G ((bytesOf s).drop at_.toNat)).2.2 = 0 then ((G ((bytesOf s).drop at_.toNat)).1, at_ + (G ((bytesOf s).drop at_.toNat)).2.1, 0) else (none_, at_, (G ((bytesOf s).drop at_.toNat)).2.2)) else (none_, at_, e)

/-- What a read may tell. -/
def Fits {τ : Type} (G : List Int → τ × Int × Int) : Prop := ∀ y, Byt y → y.length ≤ 140737488355328 → (G y).2.2 = 0 → 0 ≤ (G y).2.1 ∧ (G y).2.1 ≤ (y.length : Int)

theorem ext_end (s : ByteArray) (at_ : Int) (h0 : 0 ≤ at_) (h1 : at_ ≤ (s.size : Int)) : bytesOf (s.extract at_.toNat s.size) = (bytesOf s).drop at_.toNat := by
  unfold bytesOf
  rw [ByteArray.data_extract, Array.toList_extract, List.map_take, List.map_drop, List.take_of_length_le]
  rw [List.length_drop, List.length_map, data_length]
  exact Nat.le_refl _

theorem take_ev {τ : Type} (none_ : τ) (s : ByteArray) (at_ e : Int) (hs : s.size ≤ 140737488355328) (h0 : 0 ≤ at_) (h1 : at_ ≤ (s.size : Int)) (get : Nat → List Int → Option (τ × Int × Int)) (G : List Int → τ × Int × Int)
    (hg : ∀ y, Byt y → y.length ≤ 140737488355328 → Ev (fun k => get k y) (G y)) (hG : Fits G) :
    Ev (fun k => cursor_take_out none_ s at_ e (get k)) ((tk none_ G s at_ e).1, s, (tk none_ G s at_ e).2.1, (tk none_ G s at_ e).2.2) := by
  by_cases he : e = 0
  · subst he
    have hl := bytesOf_length s
    have hx := ext_end s at_ h0 h1
    have hxs : (s.extract at_.toNat s.size).size ≤ 9223372036854775807 := by rw [← bytesOf_length, hx, List.length_drop]; omega
    have hy : ((bytesOf s).drop at_.toNat).length ≤ 140737488355328 := by rw [List.length_drop]; omega
    have hev := hg ((bytesOf s).drop at_.toNat) ((byt_bytesOf s).drop _) hy
    refine Ev.congr (fun k => by unfold cursor_take_out; rw [if_pos rfl, if_pos h0, if_pos h1, if_pos hxs, hx]) (Ev.bind hev ?_)
    unfold tk
    rw [if_pos rfl]
    by_cases h2 : (G ((bytesOf s).drop at_.toNat)).2.2 = 0
    · have hb := hG _ ((byt_bytesOf s).drop _) hy h2
      rw [List.length_drop] at hb
      refine Ev.congr (fun k => ?_) (Ev.now _)
      rw [if_pos h2, if_pos h2, w64 (by omega) (by omega)]
    · refine Ev.congr (fun k => ?_) (Ev.now _)
      rw [if_neg h2, if_neg h2]
  · unfold tk
    rw [if_neg he]
    refine Ev.congr (fun k => ?_) (Ev.now _)
    unfold cursor_take_out
    rw [if_neg he]

theorem tk_bounds {τ : Type} (none_ : τ) {G : List Int → τ × Int × Int} (hG : Fits G) (s : ByteArray) (at_ e : Int) (hs : s.size ≤ 140737488355328) (h0 : 0 ≤ at_) (h1 : at_ ≤ (s.size : Int)) :
    at_ ≤ (tk none_ G s at_ e).2.1 ∧ (tk none_ G s at_ e).2.1 ≤ (s.size : Int) ∧ (e ≠ 0 → (tk none_ G s at_ e).2.1 = at_ ∧ (tk none_ G s at_ e).2.2 = e) := by
  unfold tk
  by_cases he : e = 0
  · rw [if_pos he]
    by_cases h2 : (G ((bytesOf s).drop at_.toNat)).2.2 = 0
    · have hl := bytesOf_length s
      have hb := hG _ ((byt_bytesOf s).drop _) (by rw [List.length_drop]; omega) h2
      rw [List.length_drop] at hb
      rw [if_pos h2]
      exact ⟨by dsimp only; omega, by dsimp only; omega, fun h => absurd he h⟩
    · rw [if_neg h2]
      exact ⟨Int.le_refl _, h1, fun h => absurd he h⟩
  · rw [if_neg he]
    exact ⟨Int.le_refl _, h1, fun _ => ⟨rfl, rfl⟩⟩

/-! ### a byte -/
def gByte (y : List Int) : Int × Int × Int := if y.length = 0 then (0, 0, 2) else (rd y 0, 1, 0)
theorem gByte_fits : Fits gByte := by
  intro y _ _ h
  unfold gByte at h ⊢
  by_cases h0 : y.length = 0
  · rw [if_pos h0] at h; exact absurd h (by decide)
  · rw [if_neg h0]; dsimp only; omega
theorem gByte_ev (y : List Int) : Ev (fun _ => cursor_Cursor_Byte_1.f y) (gByte y) := by
  refine Ev.congr (f := fun _ => some (gByte y)) (fun k => ?_) (Ev.now _)
  unfold cursor_Cursor_Byte_1.f gByte
  by_cases h0 : y.length = 0
  · rw [if_pos (by omega), if_pos h0]
  · rw [if_neg (by omega), if_neg h0, if_pos (by omega)]
theorem byte_ev (s : ByteArray) (at_ e : Int) (hs : s.size ≤ 140737488355328) (h0 : 0 ≤ at_) (h1 : at_ ≤ (s.size : Int)) : Ev (fun _ => cursor_Cursor_Byte.f s at_ e) ((tk 0 gByte s at_ e).1, s, (tk 0 gByte s at_ e).2.1, (tk 0 gByte s at_ e).2.2) :=
  take_ev 0 s at_ e hs h0 h1 (fun _ y => cursor_Cursor_Byte_1.f y) gByte (fun y _ _ => gByte_ev y) gByte_fits

/-! ### a number -/
theorem wget_fits : Fits wget := by
  intro y hy _ h
  obtain ⟨n, p, e, hq⟩ : ∃ n p e, wget y = (n, p, e) := ⟨_, _, _, rfl⟩
  rw [hq] at h ⊢
  dsimp only at h
  subst h
  obtain ⟨m, _, _, rfl, hle, _⟩ := wget_back hy hq
  dsimp only
  omega
def gNum (most : Int) (y : List Int) : Int × Int × Int := if (wget y).2.2 = 0 then (if (wget y).1 > most then ((wget y).1, (wget y).2.1, 6) else wget y) else wget y
theorem gNum_fits (most : Int) : Fits (gNum most) := by
  intro y hy hl h
  unfold gNum at h ⊢
  by_cases h0 : (wget y).2.2 = 0
  · rw [if_pos h0] at h ⊢
    by_cases h1 : (wget y).1 > most
    · rw [if_pos h1] at h; exact absurd h (by simp)
    · rw [if_neg h1]; exact wget_fits y hy hl h0
  · rw [if_neg h0] at h; exact absurd h h0
theorem gNum_ev (most : Int) (y : List Int) (hy : Byt y) : Ev (fun k => cursor_Cursor_Number_1.f k y most) (gNum most y) := by
  refine Ev.congr (fun k => by unfold cursor_Cursor_Number_1.f; rfl) (Ev.bind (MW.get_ev y hy) ?_)
  refine Ev.congr (f := fun _ => some (gNum most y)) (fun k => ?_) (Ev.now _)
  unfold gNum
  by_cases h0 : (wget y).2.2 = 0
  · rw [if_pos h0, if_pos h0]
    by_cases h1 : (wget y).1 > most
    · rw [if_pos h1, if_pos h1]
    · rw [if_neg h1, if_neg h1]
  · rw [if_neg h0, if_neg h0]
theorem number_ev (s : ByteArray) (at_ e most : Int) (hs : s.size ≤ 140737488355328) (h0 : 0 ≤ at_) (h1 : at_ ≤ (s.size : Int)) : Ev (fun k => cursor_Cursor_Number.f k s at_ e most) ((tk 0 (gNum most) s at_ e).1, s, (tk 0 (gNum most) s at_ e).2.1, (tk 0 (gNum most) s at_ e).2.2) :=
  take_ev 0 s at_ e hs h0 h1 (fun k y => cursor_Cursor_Number_1.f k y most) (gNum most) (fun y hy _ => gNum_ev most y hy) (gNum_fits most)

/-! ### a text -/
theorem bget_fits (most : Int) : Fits (fun y => bget y most) := by
  intro y hy _ h
  dsimp only at h ⊢
  obtain ⟨t, n, e, hq⟩ : ∃ t n e, bget y most = (t, n, e) := ⟨_, _, _, rfl⟩
  rw [hq] at h ⊢
  dsimp only at h
  subst h
  obtain ⟨rfl, hle, _⟩ := bget_back hy hq
  dsimp only
  omega
theorem gText_ev (most : Int) (hm : -9223372036854775808 ≤ most ∧ most < 9223372036854775808) (y : List Int) (hy : Byt y) (hl : y.length ≤ 140737488355328) : Ev (fun k => cursor_Cursor_Text_1.f k y most) (bget y most) := by
  refine Ev.congr (fun k => by unfold cursor_Cursor_Text_1.f; rfl) (Ev.bind (get_ev y hy hl most hm) ?_)
  exact Ev.now _
theorem text_ev (s : ByteArray) (at_ e most : Int) (hm : -9223372036854775808 ≤ most ∧ most < 9223372036854775808) (hs : s.size ≤ 140737488355328) (h0 : 0 ≤ at_) (h1 : at_ ≤ (s.size : Int)) : Ev (fun k => cursor_Cursor_Text.f k s at_ e most) ((tk nobytes (fun y => bget y most) s at_ e).1, s, (tk nobytes (fun y => bget y most) s at_ e).2.1, (tk nobytes (fun y => bget y most) s at_ e).2.2) :=
  take_ev nobytes s at_ e hs h0 h1 (fun k y => cursor_Cursor_Text_1.f k y most) (fun y => bget y most) (fun y hy hl => gText_ev most hm y hy hl) (bget_fits most)

/-! ### all read -/
theorem done_eq (s : ByteArray) (at_ e : Int) (hs : s.size ≤ 140737488355328) (h0 : 0 ≤ at_) (h1 : at_ ≤ (s.size : Int)) : cursor_Cursor_Done.f s at_ e = some (if at_ < (s.size : Int) ∧ e = 0 then (false, s, at_, 4) else (e == 0, s, at_, e)) := by
  unfold cursor_Cursor_Done.f cursor_Cursor_Left.f cursor_Cursor_Stop.f
  simp only [Option.bind_some]
  rw [w64 (by omega) (by omega)]
  by_cases h2 : at_ < (s.size : Int)
  · rw [if_pos (by omega)]
    by_cases h3 : e = 0
    · rw [if_pos h3, if_pos ⟨h2, h3⟩]; rfl
    · rw [if_neg h3, if_neg (fun h => h3 h.2)]; rfl
  · rw [if_neg (by omega), if_neg (fun h => h2 h.1)]
theorem stop_eq (s : ByteArray) (at_ e n : Int) : cursor_Cursor_Stop.f s at_ e n = some (s, at_, if e = 0 then n else e) := by
  unfold cursor_Cursor_Stop.f
  by_cases h : e = 0
  · rw [if_pos h, if_pos h]
  · rw [if_neg h, if_neg h]
end Go.Proofs.Ytjfklfmfeghjnab.MCursor
