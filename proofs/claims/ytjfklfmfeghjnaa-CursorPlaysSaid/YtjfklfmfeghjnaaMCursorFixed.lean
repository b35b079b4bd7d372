/- Plain laws on a cursor: the chapter's example; a step of a row of steps. -/
import Derived.Test.YtjfklfmfeghjnaaMCursor
import Derived.Test.YtjfklfmfeghjnaaPAx0
import Derived.Test.YtjfklfmfeghjnaaPAx10
set_option linter.unusedVariables false
namespace Go.Proofs.Ytjfklfmfeghjnaa.MCursor
open Go.RowKit Go.Proofs.Ytjfklfmfeghjnaa.PA Go.Proofs.Ytjfklfmfeghjnaa.MW Go.Proofs.Ytjfklfmfeghjnaa.MBlob Go.Proofs.YtjfklfmfeghjnaaW.PrintWords Go.Proofs.YtjfklfmfeghjnaaW.PrintLast Go.Proofs.YtjfklfmfeghjnaaW.PrintMore Go.Proofs.YtjfklfmfeghjnaaAid

theorem fixed03 : Ev (fun k => tachographlaw03_fixed.f k) true := by
 have hs : (strOfNums [5, 1, 97]).size = 3 := rfl
 have hb : bytesOf (strOfNums [5, 1, 97]) = [5, 1, 97] := bytesOf_strOfNums (fun x hx => by simp at hx; omega)
 have h1 := byte_ev (strOfNums [5, 1, 97]) 0 0 (by omega) (by omega) (by omega)
 have e1 : tk 0 gByte (strOfNums [5, 1, 97]) 0 0 = (5, 1, 0) := by unfold tk; rw [hb]; rfl
 rw [e1] at h1
 have h2 := text_ev (strOfNums [5, 1, 97]) 1 0 3 (by omega) (by omega) (by omega) (by omega)
 have hbb : bbytes (⟨#[97]⟩ : ByteArray) = [1, 97] := by
  unfold bbytes
  rw [show (⟨#[97]⟩ : ByteArray).size = 1 from rfl, wbytes]
  rfl
 have hg : bget [1, 97] 3 = (⟨#[97]⟩, 2, 0) := by
  have := bget_put (⟨#[97]⟩ : ByteArray) (by decide) [] 3
  rw [hbb, List.append_nil] at this
  rw [this]
  rfl
 have e2 : tk nobytes (fun y => bget y 3) (strOfNums [5, 1, 97]) 1 0 = (⟨#[97]⟩, 3, 0) := by
  unfold tk
  rw [hb, show ([5, 1, 97] : List Int).drop (1 : Int).toNat = [1, 97] from rfl]
  simp only [hg]
  rfl
 rw [e2] at h2
 refine Ev.congr (fun k => by unfold tachographlaw03_fixed.f cursor_New.f; rw [Option.bind_some]) (Ev.bind h1 ?_)
 refine Ev.congr (fun k => by rw [if_pos rfl]) (Ev.bind h2 ?_)
 refine Ev.congr (f := fun _ => some true) (fun k => ?_) (Ev.now _)
 dsimp only
 rw [if_pos (show (⟨#[97]⟩ : ByteArray).toList = [97] from toList_strOfNums [97]), done_eq _ _ _ (by omega) (by omega) (by omega), Option.bind_some, if_neg (by omega)]
 rfl

theorem rd61_dropE {l : List S61} {i : Nat} {x : S61} {r : List S61} (h : l.drop i = x :: r) : rd_T61 l (i : Int) = x ∧ i < l.length ∧ l.drop (i + 1) = r := by
 have hl : i < l.length := by
  rcases Nat.lt_or_ge i l.length with h1 | h1
  ·exact h1
  ·rw [List.drop_eq_nil_of_le h1] at h; cases h
 rw [List.drop_eq_getElem_cons hl] at h
 obtain ⟨h1, h2⟩ := List.cons.inj h
 refine ⟨?_, hl, h2⟩
 unfold rd_T61
 rw [Int.toNat_natCast, List.getD_eq_getElem?_getD, List.getElem?_eq_getElem hl, h1]
 rfl

end Go.Proofs.Ytjfklfmfeghjnaa.MCursor
