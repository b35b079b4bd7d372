/- Proved: tachographlaw10.SigtextPlaces answers true at every text: a place that is told is one of the text. -/
import Derived.Test.YtmmfakdncjeoeacDoorMSigtext
import Derived.Test.YtmmfakdncjeoeacDoorPEx6
set_option linter.unusedVariables false
set_option linter.unusedSimpArgs false
namespace Go.Proofs.YtmmfakdncjeoeacDoor.Pure
open Go Go.RowKit Go.Proofs.YtmmfakdncjeoeacDoor.PE Go.Proofs.YtmmfakdncjeoeacDoor.MBase Go.Proofs.YtmmfakdncjeoeacDoor.MSig Go.Proofs.YtmmfakdncjeoeacDoor.MSplit Go.Proofs.YtmmfakdncjeoeacDoor.MSigline Go.Proofs.YtmmfakdncjeoeacDoor.MSigtext Go.Proofs.YtmmfakdncjeoeacDoorAid Go.Proofs.YtmmfakdncjeoeacDoorW.PrintWords Go.Proofs.YtmmfakdncjeoeacDoorW.PrintLast Go.Proofs.YtmmfakdncjeoeacDoorW.PrintMore

theorem bt_at (s : ByteArray) (pre : List UInt8) (c : UInt8) (r : List UInt8) (h : s.data.toList = pre ++ c :: r) : bt s (pre.length : Int) = (c.toNat : Int) ∧ pre.length < s.size := by
  have hl := size_list s
  rw [h] at hl
  simp only [List.length_append, List.length_cons] at hl
  refine ⟨?_, by omega⟩
  unfold bt
  rw [dif_pos (show (pre.length : Int).toNat < s.size by rw [Int.toNat_natCast]; omega)]
  simp only [Int.toNat_natCast]
  have e : s[pre.length]'(by omega) = s.data.toList[pre.length]'(by rw [h]; simp) := rfl
  rw [e]
  simp only [h]
  rw [List.getElem_append_right (Nat.le_refl _)]
  simp
theorem ten (c : UInt8) : ((c.toNat : Int) = 10) ↔ c = 10 := by
  refine ⟨fun h => ?_, fun h => by rw [h]; rfl⟩
  have h2 : c.toNat = 10 := by omega
  exact UInt8.toNat_inj.1 h2
/-- The end is right. -/
theorem p_hit (s : ByteArray) (ln col x8 x28 x29 L C : Int) (hC : 1 ≤ C) : Ev (fun k => tachographlaw10_SigtextPlaces.j1 k s ln col x8 x28 x29 true L C) true := by
  refine Ev.step (f := fun k => (tachographlaw10_fixed.f k).bind fun t172 => (if t172 = true then (some (decide (C ≥ 1))) else (some false))) (fun k => ?_) (Ev.bind fixed10 ?_)
  · simp only [tachographlaw10_SigtextPlaces.j1, if_true]
  · simp only [if_true]
    rw [decide_eq_true hC]
    exact Ev.now _
theorem p_end (s : ByteArray) (col L C : Int) (hC : 1 ≤ C) (hc : C ≤ col) : Ev (fun k => tachographlaw10_SigtextPlaces.l0 k s L col (s.size : Int) (s.size : Int) L C) true := by
  refine Ev.step (f := fun k => (tachographlaw10_fixed.f k).bind fun t171 => (if t171 = true then (if L = L then (if col ≥ C then (some (decide (C ≥ 1))) else (some false)) else (some false)) else (some false))) (fun k => ?_) (Ev.bind fixed10 ?_)
  · simp only [tachographlaw10_SigtextPlaces.l0]
    rw [if_neg (by omega)]
  · simp only [if_true]
    rw [if_pos hc, decide_eq_true hC]
    exact Ev.now _
/-- A step over a byte that is no line feed. -/
theorem p_step (s : ByteArray) (hs : s.size ≤ 3000) (pre : List UInt8) (c : UInt8) (r : List UInt8) (h : s.data.toList = pre ++ c :: r) (ln col L C : Int) (hne : ¬ (ln = L ∧ col = C)) (hc : c ≠ 10) (hcol : 0 ≤ col ∧ col < 100000) (hv : Ev (fun k => tachographlaw10_SigtextPlaces.l0 k s ln (col + 1) (s.size : Int) ((pre.length + 1 : Nat) : Int) L C) true) :
    Ev (fun k => tachographlaw10_SigtextPlaces.l0 k s ln col (s.size : Int) (pre.length : Int) L C) true := by
  obtain ⟨hb, hlt⟩ := bt_at s pre c r h
  have h10 : ¬ bt s (pre.length : Int) = 10 := by rw [hb]; exact fun e => hc ((ten c).1 e)
  have hj : Ev (fun k => tachographlaw10_SigtextPlaces.j1 k s ln col (pre.length : Int) (s.size : Int) (pre.length : Int) false L C) true := by
    refine Ev.step (f := fun k => tachographlaw10_SigtextPlaces.l0 k s ln (col + 1) (s.size : Int) ((pre.length + 1 : Nat) : Int) L C) (fun k => ?_) hv
    simp only [tachographlaw10_SigtextPlaces.j1, Bool.false_eq_true, if_false]
    rw [if_pos (by omega), if_pos (by omega), if_neg h10, w64 (by omega) (by omega), w64 (by omega) (by omega)]
    rfl
  refine Ev.step (f := fun k => tachographlaw10_SigtextPlaces.j1 k s ln col (pre.length : Int) (s.size : Int) (pre.length : Int) false L C) (fun k => ?_) hj
  simp only [tachographlaw10_SigtextPlaces.l0]
  rw [if_pos (by omega)]
  by_cases h1 : ln = L
  · rw [if_pos h1, if_neg (fun e => hne ⟨h1, e⟩), if_pos (by omega), if_pos (by omega), if_neg h10]
  · rw [if_neg h1]
theorem p_feed (s : ByteArray) (hs : s.size ≤ 3000) (pre r : List UInt8) (h : s.data.toList = pre ++ 10 :: r) (ln col L C : Int) (hne : ln ≠ L) (hln : 0 ≤ ln ∧ ln < 100000) (hv : Ev (fun k => tachographlaw10_SigtextPlaces.l0 k s (ln + 1) 1 (s.size : Int) ((pre.length + 1 : Nat) : Int) L C) true) :
    Ev (fun k => tachographlaw10_SigtextPlaces.l0 k s ln col (s.size : Int) (pre.length : Int) L C) true := by
  obtain ⟨hb, hlt⟩ := bt_at s pre 10 r h
  have h10 : bt s (pre.length : Int) = 10 := by rw [hb]; rfl
  have hj : Ev (fun k => tachographlaw10_SigtextPlaces.j1 k s ln col (pre.length : Int) (s.size : Int) (pre.length : Int) false L C) true := by
    refine Ev.step (f := fun k => tachographlaw10_SigtextPlaces.l0 k s (ln + 1) 1 (s.size : Int) ((pre.length + 1 : Nat) : Int) L C) (fun k => ?_) hv
    simp only [tachographlaw10_SigtextPlaces.j1, Bool.false_eq_true, if_false]
    rw [if_pos (by omega), if_pos (by omega), if_pos h10, w64 (by omega) (by omega), w64 (by omega) (by omega)]
    rfl
  refine Ev.step (f := fun k => tachographlaw10_SigtextPlaces.j1 k s ln col (pre.length : Int) (s.size : Int) (pre.length : Int) false L C) (fun k => ?_) hj
  simp only [tachographlaw10_SigtextPlaces.l0]
  rw [if_pos (by omega), if_neg hne]
/-- To the end of a line that is not the one. -/
theorem p_line (s : ByteArray) (hs : s.size ≤ 3000) (ln L C : Int) (hne : ln ≠ L) (hln : 0 ≤ ln ∧ ln < 100000) : ∀ (x pre r : List UInt8) (col : Int), s.data.toList = pre ++ (x ++ 10 :: r) → (10 : UInt8) ∉ x → 0 ≤ col → col + x.length < 100000 →
    Ev (fun k => tachographlaw10_SigtextPlaces.l0 k s (ln + 1) 1 (s.size : Int) ((pre.length + x.length + 1 : Nat) : Int) L C) true → Ev (fun k => tachographlaw10_SigtextPlaces.l0 k s ln col (s.size : Int) (pre.length : Int) L C) true
  | [], pre, r, col => fun h hx h0 h1 hv => p_feed s hs pre r h ln col L C hne hln hv
  | c :: x, pre, r, col => fun h hx h0 h1 hv => by
    simp only [List.length_cons] at h1
    refine p_step s hs pre c (x ++ 10 :: r) h ln col L C (fun e => hne e.1) (fun e => hx (by rw [e]; exact List.mem_cons_self)) ⟨h0, by omega⟩ ?_
    have ih := p_line s hs ln L C hne hln x (pre ++ [c]) r (col + 1) (by rw [h]; simp) (fun e => hx (List.mem_cons_of_mem _ e)) (by omega) (by omega) (by
      have e : (pre ++ [c]).length + x.length + 1 = pre.length + (c :: x).length + 1 := by simp; omega
      rw [e]
      exact hv)
    rw [List.length_append, List.length_singleton] at ih
    exact ih
/-- To the end of the text, in the last line. -/
theorem p_last (s : ByteArray) (hs : s.size ≤ 3000) (L C : Int) : ∀ (x pre : List UInt8) (col : Int), s.data.toList = pre ++ x → (10 : UInt8) ∉ x → 1 ≤ col → col + x.length = C → C < 100000 → Ev (fun k => tachographlaw10_SigtextPlaces.l0 k s L col (s.size : Int) (pre.length : Int) L C) true
  | [], pre, col => fun h hx h0 h1 h2 => by
    have hl := size_list s
    rw [h, List.append_nil] at hl
    rw [hl]
    simp only [List.length_nil] at h1
    exact p_end s col L C (by omega) (by omega)
  | c :: x, pre, col => fun h hx h0 h1 h2 => by
    simp only [List.length_cons] at h1
    refine p_step s hs pre c x h L col L C (fun e => by have := e.2; omega) (fun e => hx (by rw [e]; exact List.mem_cons_self)) ⟨by omega, by omega⟩ ?_
    have ih := p_last s hs L C x (pre ++ [c]) (col + 1) (by rw [h]; simp) (fun e => hx (List.mem_cons_of_mem _ e)) (by omega) (by omega) h2
    rw [List.length_append, List.length_singleton] at ih
    exact ih
theorem p_first (s : ByteArray) (hs : s.size ≤ 3000) (L : Int) (pre r : List UInt8) (c : UInt8) (h : s.data.toList = pre ++ c :: r) : Ev (fun k => tachographlaw10_SigtextPlaces.l0 k s L 1 (s.size : Int) (pre.length : Int) L 1) true := by
  obtain ⟨hb, hlt⟩ := bt_at s pre c r h
  refine Ev.step (f := fun k => tachographlaw10_SigtextPlaces.j1 k s L 1 (pre.length : Int) (s.size : Int) (pre.length : Int) true L 1) (fun k => ?_) (p_hit s L 1 _ _ _ L 1 (by omega))
  simp only [tachographlaw10_SigtextPlaces.l0]
  rw [if_pos (by omega), if_pos trivial, if_pos trivial]
theorem line_ge : ∀ (m : Nat) (out : List Pred) (n : Int) (l : List UInt8), (parseL m out n l).2.1 ≠ 0 → n ≤ (parseL m out n l).2.2.1
  | 0, out, n, l => fun h => absurd rfl h
  | m + 1, out, n, l => fun h => by
    revert h
    simp only [parseL]
    split
    · exact fun h => absurd rfl h
    · split
      · exact fun _ => Int.le_refl _
      · split
        · exact fun _ => Int.le_refl _
        · split
          · exact fun _ => Int.le_refl _
          · split
            · exact fun h => by have := line_ge m _ (n + 1) _ h; omega
            · exact fun _ => Int.le_refl _
theorem p_all (s : ByteArray) (hs : s.size ≤ 3000) : ∀ (m : Nat) (out : List Pred) (n : Int) (l pre : List UInt8), s.data.toList = pre ++ l → l.length ≤ m → 0 ≤ n → n + m ≤ 50000 → (parseL m out n l).2.1 ≠ 0 →
    Ev (fun k => tachographlaw10_SigtextPlaces.l0 k s n 1 (s.size : Int) (pre.length : Int) (parseL m out n l).2.2.1 (parseL m out n l).2.2.2) true
  | 0, out, n, l, pre => fun h hl hn hm he => absurd rfl he
  | m + 1, out, n, l, pre => fun h hl hn hm => by
    have hsl := size_list s
    rw [h] at hsl
    simp only [List.length_append] at hsl
    simp only [parseL]
    by_cases hnil : l = []
    · rw [if_pos hnil]
      exact fun he => absurd rfl he
    · rw [if_neg hnil]
      obtain ⟨c, r, rfl⟩ : ∃ c r, l = c :: r := by
        cases l with
        | nil => exact absurd rfl hnil
        | cons c r => exact ⟨c, r, rfl⟩
      have hfirst := p_first s hs n pre r c h
      cases hp : predL (Lib.cut (c :: r) [10]).1 with
      | none => exact fun _ => hfirst
      | some p =>
        simp only
        by_cases hm' : p.f0 ∈ names out
        · rw [if_pos hm']
          exact fun _ => hfirst
        · rw [if_neg hm']
          by_cases hq : p.f1.length > 8 ∨ n > 64
          · rw [if_pos hq]
            exact fun _ => hfirst
          · rw [if_neg hq]
            rcases parts 10 (c :: r) with hno | ⟨x, t, e, hx⟩
            · rw [cut_out 10 _ hno]
              simp only [Bool.false_eq_true, if_false]
              exact fun _ => p_last s hs n _ (c :: r) pre 1 h hno (by omega) (by omega) (by omega)
            · rw [e, cut_in 10 x t hx]
              simp only [if_true]
              intro he
              have hge := line_ge m _ (n + 1) t he
              have hlen : (c :: r).length = x.length + (t.length + 1) := by rw [e]; simp
              rw [e] at h
              refine p_line s hs n _ _ (by omega) ⟨hn, by omega⟩ x pre t 1 h hx (by omega) (by omega) ?_
              have ih := p_all s hs m (out ++ [p]) (n + 1) t (pre ++ (x ++ [10])) (by rw [h]; simp) (by omega) (by omega) (by omega) he
              have e2 : (pre ++ (x ++ [10])).length = pre.length + x.length + 1 := by simp; omega
              rw [e2] at ih
              exact ih
theorem SigtextPlaces : tachographlaw10_SigtextPlaces.Pure := by
  intro s hs
  refine Ev.rounds ?_
  unfold tachographlaw10_SigtextPlaces.f
  by_cases h : (s.size : Int) > 3000
  · simp only [if_pos h]
    exact Ev.bind fixed10 (Ev.now _)
  · simp only [if_neg h]
    refine Ev.bind (parse_ev s (by omega)) ?_
    have hc : check ([] : List Pred) = 0 := by decide
    obtain ⟨h1, h2⟩ := parseL_back s.size [] 1 s.data.toList (by rw [size_list]; exact Nat.le_refl _) hc rfl
    by_cases he : (parseL s.size [] 1 s.data.toList).2.1 = 0
    · obtain ⟨o, e1, _⟩ := h1 he
      rw [e1]
      simp only [if_true]
      refine Ev.bind fixed10 ?_
      simp only [if_true]
      exact Ev.now _
    · simp only [if_neg he]
      exact p_all s (by omega) s.size [] 1 s.data.toList [] rfl (by rw [size_list]; exact Nat.le_refl _) (by omega) (by omega) he
end Go.Proofs.YtmmfakdncjeoeacDoor.Pure
