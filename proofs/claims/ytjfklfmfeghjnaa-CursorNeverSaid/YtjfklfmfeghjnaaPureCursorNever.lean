/- Proved: tachographlaw03.CursorNever answers true at every bytes and steps: a cursor's place never falls, is never beyond the bytes, and never moves behind a stop, whose error stays. Conditions: none but the form's own reach. -/
import Derived.Test.YtjfklfmfeghjnaaMCursor
import Derived.Test.YtjfklfmfeghjnaaPAx10
import Derived.Test.YtjfklfmfeghjnaaPAx12
set_option linter.unusedVariables false
namespace Go.Proofs.Ytjfklfmfeghjnaa.Pure
open Go.RowKit Go.Proofs.Ytjfklfmfeghjnaa.PA Go.Proofs.Ytjfklfmfeghjnaa.MW Go.Proofs.Ytjfklfmfeghjnaa.MBlob Go.Proofs.Ytjfklfmfeghjnaa.MCursor Go.Proofs.YtjfklfmfeghjnaaW.PrintWords Go.Proofs.YtjfklfmfeghjnaaW.PrintLast Go.Proofs.YtjfklfmfeghjnaaW.PrintMore Go.Proofs.YtjfklfmfeghjnaaAid Go.Proofs.YtjfklfmfeghjnaaOpen

theorem fixed03 : Ev (fun k => tachographlaw03_fixed.f k) true := by
  have hs : (strOfNums [5, 1, 97]).size = 3 := rfl
  have hb : bytesOf (strOfNums [5, 1, 97]) = [5, 1, 97] := bytesOf_strOfNums (fun x hx => by simp at hx; omega)
  have h1 := byte_ev (strOfNums [5, 1, 97]) 0 0 (by omega) (by omega) (by omega)
  have e1 : tk 0 gByte (strOfNums [5, 1, 97]) 0 0 = (5, 1, 0) := by unfold tk; rw [hb]; rfl
  rw [e1] at h1
  have h2 := text_ev (strOfNums [5, 1, 97]) 1 0 3 (by omega) (by omega) (by omega) (by omega)
  have hbb : bbytes (⟨#[97]⟩ : ByteArray) = [1, 97] := by
    unfold bbytes
    rw [show (⟨#[97]⟩ : ByteArray).size = 1 from rfl, wbytes]
    rfl
  have hg : bget [1, 97] 3 = (⟨#[97]⟩, 2, 0) := by
    have := bget_put (⟨#[97]⟩ : ByteArray) (by decide) [] 3
    rw [hbb, List.append_nil] at this
    rw [this]
    rfl
  have e2 : tk nobytes (fun y => bget y 3) (strOfNums [5, 1, 97]) 1 0 = (⟨#[97]⟩, 3, 0) := by
    unfold tk
    rw [hb, show ([5, 1, 97] : List Int).drop (1 : Int).toNat = [1, 97] from rfl]
    simp only [hg]
    rfl
  rw [e2] at h2
  refine Ev.congr (fun k => by unfold tachographlaw03_fixed.f cursor_New.f; rw [Option.bind_some]) (Ev.bind h1 ?_)
  refine Ev.congr (fun k => by rw [if_pos rfl]) (Ev.bind h2 ?_)
  refine Ev.congr (f := fun _ => some true) (fun k => ?_) (Ev.now _)
  dsimp only
  rw [if_pos (show (⟨#[97]⟩ : ByteArray).toList = [97] from toList_strOfNums [97]), done_eq _ _ _ (by omega) (by omega) (by omega), Option.bind_some, if_neg (by omega)]
  rfl

theorem rd61_dropE {l : List S61} {i : Nat} {x : S61} {r : List S61} (h : l.drop i = x :: r) : rd_T61 l (i : Int) = x ∧ i < l.length ∧ l.drop (i + 1) = r := by
  have hl : i < l.length := by
    rcases Nat.lt_or_ge i l.length with h1 | h1
    · exact h1
    · rw [List.drop_eq_nil_of_le h1] at h; cases h
  rw [List.drop_eq_getElem_cons hl] at h
  obtain ⟨h1, h2⟩ := List.cons.inj h
  refine ⟨?_, hl, h2⟩
  unfold rd_T61
  rw [Int.toNat_natCast, List.getD_eq_getElem?_getD, List.getElem?_eq_getElem hl, h1]
  rfl

theorem never_j2 (b : List Int) (s : ByteArray) (hbs : s.size = b.length) (hs : s.size ≤ 140737488355328) (at0 e0 : Int) (l : List S61) (i : Nat) (hi : i < 4611686018427387904) (at_ e : Int) (h0 : at0 ≤ at_) (h00 : 0 ≤ at0) (h1 : at_ ≤ (s.size : Int)) (hst : e0 ≠ 0 → at_ = at0 ∧ e = e0)
    (ih : Ev (fun k => tachographlaw03_CursorNever.l0 k b l (l.length : Int) ((i + 1 : Nat) : Int) s at_ e) true) : Ev (fun k => tachographlaw03_CursorNever.j2 k b at0 e0 l (l.length : Int) (i : Int) s at_ e) true := by
  refine Ev.step (fun k => ?_) ih
  simp only [tachographlaw03_CursorNever.j2, cursor_Cursor_At.f, cursor_Cursor_Left.f, cursor_Cursor_Err.f, Option.bind_some]
  rw [if_neg (by omega), if_neg (by omega), if_pos (by rw [hbs]), w64 (x := (i : Int) + 1) (by omega) (by omega)]
  by_cases he : e0 = 0
  · rw [if_pos he]; rfl
  · obtain ⟨h2, h3⟩ := hst he
    rw [if_neg he, if_pos h2, if_pos h3]; rfl

theorem never_l0 (b : List Int) (s : ByteArray) (hbs : s.size = b.length) (hs : s.size ≤ 140737488355328) (l : List S61) (hl : l.length < 4611686018427387904) (hw : ∀ x ∈ l, (-9223372036854775808 ≤ x.f1 ∧ x.f1 < 9223372036854775808)) : ∀ (r : List S61) (i : Nat) (at_ e : Int), l.drop i = r → 0 ≤ at_ → at_ ≤ (s.size : Int) →
    Ev (fun k => tachographlaw03_CursorNever.l0 k b l (l.length : Int) (i : Int) s at_ e) true
  | [], i, at_, e => fun h h0 h1 => by
    have hi := List.drop_eq_nil_iff.1 h
    refine Ev.step (f := fun k => (tachographlaw03_fixed.f k).bind fun t => some t) (fun k => ?_) (Ev.bind fixed03 (Ev.now _))
    simp only [tachographlaw03_CursorNever.l0]
    rw [if_neg (by omega)]
  | x :: r, i, at_, e => fun h h0 h1 => by
    obtain ⟨hx, hi, hr⟩ := rd61_dropE h
    have hwx := hw x (by
      have : x ∈ l.drop i := by rw [h]; exact List.mem_cons_self
      exact List.mem_of_mem_drop this)
    have next : ∀ at' e', at_ ≤ at' → at' ≤ (s.size : Int) → (e ≠ 0 → at' = at_ ∧ e' = e) → Ev (fun k => tachographlaw03_CursorNever.j2 k b at_ e l (l.length : Int) (i : Int) s at' e') true := fun at' e' g0 g1 g2 =>
      never_j2 b s hbs hs at_ e l i (by omega) at' e' g0 h0 g1 g2 (never_l0 b s hbs hs l hl hw r (i + 1) at' e' hr (by omega) g1)
    by_cases c0 : x.f0 = 0
    · obtain ⟨g0, g1, g2⟩ := tk_bounds 0 gByte_fits s at_ e hs h0 h1
      refine Ev.step (fun k => by simp only [tachographlaw03_CursorNever.l0, cursor_Cursor_At.f, cursor_Cursor_Err.f, Option.bind_some, hx]; rw [if_pos (by omega), if_pos (by omega), if_pos (by omega), if_pos c0]) (Ev.bind (byte_ev s at_ e hs h0 h1) ?_)
      exact next _ _ g0 g1 g2
    by_cases c1 : x.f0 = 1
    · obtain ⟨g0, g1, g2⟩ := tk_bounds 0 (gNum_fits (IntKind.u64.wrap x.f1)) s at_ e hs h0 h1
      refine Ev.step (fun k => by simp only [tachographlaw03_CursorNever.l0, cursor_Cursor_At.f, cursor_Cursor_Err.f, Option.bind_some, hx]; rw [if_pos (by omega), if_pos (by omega), if_pos (by omega), if_neg c0, if_pos c1]) (Ev.bind (number_ev s at_ e _ hs h0 h1) ?_)
      exact next _ _ g0 g1 g2
    by_cases c2 : x.f0 = 2
    · obtain ⟨g0, g1, g2⟩ := tk_bounds 0 wget_fits s at_ e hs h0 h1
      obtain ⟨u, hu⟩ := unfold_some (tk 0 wget s at_ e).1
      refine Ev.step (fun k => by simp only [tachographlaw03_CursorNever.l0, cursor_Cursor_At.f, cursor_Cursor_Err.f, Option.bind_some, hx]; rw [if_pos (by omega), if_pos (by omega), if_pos (by omega), if_neg c0, if_neg c1, if_pos c2]) (Ev.bind (signed_ev s at_ e hs h0 h1 u hu) ?_)
      exact next _ _ g0 g1 g2
    by_cases c3 : x.f0 = 3
    · obtain ⟨g0, g1, g2⟩ := tk_bounds nobytes (bget_fits x.f1) s at_ e hs h0 h1
      refine Ev.step (fun k => by simp only [tachographlaw03_CursorNever.l0, cursor_Cursor_At.f, cursor_Cursor_Err.f, Option.bind_some, hx]; rw [if_pos (by omega), if_pos (by omega), if_pos (by omega), if_neg c0, if_neg c1, if_neg c2, if_pos c3]) (Ev.bind (text_ev s at_ e x.f1 hwx hs h0 h1) ?_)
      exact next _ _ g0 g1 g2
    by_cases c4 : x.f0 = 4
    · have hd := done_eq s at_ e hs h0 h1
      by_cases c : at_ < (s.size : Int) ∧ e = 0
      · rw [if_pos c] at hd
        refine Ev.step (fun k => by simp only [tachographlaw03_CursorNever.l0, cursor_Cursor_At.f, cursor_Cursor_Err.f, Option.bind_some, hx]; rw [if_pos (by omega), if_pos (by omega), if_pos (by omega), if_neg c0, if_neg c1, if_neg c2, if_neg c3, if_pos c4, hd, Option.bind_some]) (next at_ 4 (Int.le_refl _) h1 (fun h => absurd c.2 h))
      · rw [if_neg c] at hd
        refine Ev.step (fun k => by simp only [tachographlaw03_CursorNever.l0, cursor_Cursor_At.f, cursor_Cursor_Err.f, Option.bind_some, hx]; rw [if_pos (by omega), if_pos (by omega), if_pos (by omega), if_neg c0, if_neg c1, if_neg c2, if_neg c3, if_pos c4, hd, Option.bind_some]) (next at_ e (Int.le_refl _) h1 (fun _ => ⟨rfl, rfl⟩))
    by_cases c5 : x.f0 = 5
    · have hd := stop_eq s at_ e x.f1
      refine Ev.step (fun k => by simp only [tachographlaw03_CursorNever.l0, cursor_Cursor_At.f, cursor_Cursor_Err.f, Option.bind_some, hx]; rw [if_pos (by omega), if_pos (by omega), if_pos (by omega), if_neg c0, if_neg c1, if_neg c2, if_neg c3, if_neg c4, if_pos c5, hd, Option.bind_some]) (next at_ _ (Int.le_refl _) h1 (fun h => ⟨rfl, if_neg h⟩))
    refine Ev.step (fun k => by simp only [tachographlaw03_CursorNever.l0, cursor_Cursor_At.f, cursor_Cursor_Err.f, Option.bind_some, hx]; rw [if_pos (by omega), if_pos (by omega), if_pos (by omega), if_neg c0, if_neg c1, if_neg c2, if_neg c3, if_neg c4, if_neg c5]) (next at_ e (Int.le_refl _) h1 (fun _ => ⟨rfl, rfl⟩))

theorem CursorNever : tachographlaw03_CursorNever.Pure := by
  intro b l hm _ hw hl
  have hb := byt_wf hw
  refine Ev.rounds (r := true) ?_
  have htrue : Ev (fun k => tachographlaw03_CursorNever.j0 k b l true) true := by
    refine Ev.step (f := fun k => (tachographlaw03_fixed.f k).bind fun t => some t) (fun k => ?_) (Ev.bind fixed03 (Ev.now _))
    simp only [tachographlaw03_CursorNever.j0, if_true]
  by_cases h : (b.length : Int) > 300
  · exact Ev.congr (fun k => by unfold tachographlaw03_CursorNever.f; rw [if_pos h]) htrue
  by_cases h2 : (l.length : Int) > 60
  · exact Ev.congr (fun k => by unfold tachographlaw03_CursorNever.f; rw [if_neg h, decide_eq_true h2]) htrue
  have hsz : (strOfNums b).size = b.length := strOfNums_size b
  refine Ev.congr (fun k => by unfold tachographlaw03_CursorNever.f; rw [if_neg h, decide_eq_false h2]) ?_
  refine Ev.step (fun k => by simp only [tachographlaw03_CursorNever.j0, cursor_New.f, Option.bind_some]; rw [if_neg (by simp)]; rfl) (never_l0 b (strOfNums b) hsz (by omega) l (by omega) (fun x hx => wf_i64 (hl.2.2 x hx).2) l 0 0 0 rfl (by omega) (by omega))

end Go.Proofs.Ytjfklfmfeghjnaa.Pure
