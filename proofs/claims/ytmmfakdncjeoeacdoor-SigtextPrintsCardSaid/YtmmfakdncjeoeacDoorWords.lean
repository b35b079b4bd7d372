/- sigtext's words: the map that the variable holds, and bytealg.MaxLen's cell: what they are in all later worlds. -/
import Derived.Test.YtmmfakdncjeoeacDoorAid
import Derived.Test.YtmmfakdncjeoeacDoorShelf
import Derived.Test.YtmmfakdncjeoeacDoorProg
import Derived.ProofKit
import Derived.LaidMore
import Derived.OpenShut
import Derived.Laws.IdiomMaps
namespace Go.Proofs.YtmmfakdncjeoeacDoorAid
open Go Go.RowKit Go.WideMaps Go.WideElems
theorem wlaw : KeyLaw Tryd.prog 9 := string_law Tryd.underlying9
def wordsD {H : Type} : DataW H := .map [(.string [105, 110, 116], .lit (.int .i64 1)), (.string [115, 116, 114, 105, 110, 103], .lit (.int .i64 2))]
def Words (w : World) : Prop := ∃ (bm : Nat) (es : Array MapEntry) (clock : Nat) (R : Value → Option (DataW Unit × List MemPlace)), w.cell? ⟨0, 0, none⟩ = some (.map (some bm)) ∧ w.heap[bm]? = some (.map es clock) ∧ Fit Tryd.prog 9 R es clock ∧
  (DataW.map ((es.toList.map (rg Tryd.prog 9 R)).foldr DataW.insert [])) = (wordsD : DataW Unit) ∧ ∀ v y, R v = some y → ∃ n, v = .int .i64 n ∧ y.1 = .lit (.int .i64 n)
def Glob (w : World) : Prop := (∃ m, w.cell? ⟨1, 0, none⟩ = some (.int .i64 m)) ∧ Words w
theorem Words.below {w w' : World} (h : Words w) (hb : Below w.heap.size w w') : Words w' := by
  obtain ⟨bm, es, clock, R, h1, h2, h3⟩ := h
  have hlt : bm < w.heap.size := (Array.getElem?_eq_some_iff.1 h2).1
  exact ⟨bm, es, clock, R, (hb.cell (World.block_lt_of_cell? w _ h1)).trans h1, (hb.block bm hlt).trans h2, h3⟩
theorem Glob.below {w w' : World} (h : Glob w) (hb : Below w.heap.size w w') : Glob w' := by
  obtain ⟨⟨m, h1⟩, h2⟩ := h
  exact ⟨⟨m, (hb.cell (World.block_lt_of_cell? w _ h1)).trans h1⟩, h2.below hb⟩
def wordOf (s : ByteArray) : Int × Bool := if s.toList = [105, 110, 116] then (1, true) else if s.toList = [115, 116, 114, 105, 110, 103] then (2, true) else (0, false)
theorem words_look {w : World} (h : Words w) : ∃ bm, w.cell? ⟨0, 0, none⟩ = some (.map (some bm)) ∧ ∀ s : ByteArray, s.size ≤ maxLen → (Instr.lookup 67 (.map (some bm)) (.string s) true).run Tryd.prog w = .ok (.tuple #[.int .i64 (wordOf s).1, .bool (wordOf s).2]) w := by
  obtain ⟨bm, es, clock, R, h1, h2, hF, hD, hR⟩ := h
  refine ⟨bm, h1, fun s hs => ?_⟩
  have zero : (zeroValue 3).run Tryd.prog w = .ok (.int .i64 0) w := by kernel_rfl
  have key : keyOf Tryd.prog 9 (.string s) = some (.string s.data.toList) := keyOf_string_mk (s := s) Tryd.underlying9 hs
  have at_ : ∀ zd : DataW Unit, wordsD.atKey (.string s.data.toList) zd = if s.data.toList = [105, 110, 116] then .lit (.int .i64 1) else if s.data.toList = [115, 116, 114, 105, 110, 103] then .lit (.int .i64 2) else zd := by
    intro zd
    by_cases c1 : s.data.toList = [105, 110, 116]
    · rw [c1]; rfl
    · by_cases c2 : s.data.toList = [115, 116, 114, 105, 110, 103]
      · rw [c2]; rfl
      · rw [if_neg c1, if_neg c2]
        have b1 : (([105, 110, 116] : List UInt8) == s.data.toList) = false := beq_eq_false_iff_ne.mpr (Ne.symm c1)
        have b2 : (([115, 116, 114, 105, 110, 103] : List UInt8) == s.data.toList) = false := beq_eq_false_iff_ne.mpr (Ne.symm c2)
        simp only [wordsD, DataW.atKey, List.find?, Lit.sameKey, b1, b2]
  have hl : s.toList = s.data.toList := by simp [ByteArray.toList_eq]
  unfold wordOf
  rw [hl]
  rcases fit_lookup_ok (w := w) wlaw Tryd.underlying67 zero h2 hF key with ⟨hrun, hat⟩ | ⟨v, y, hrun, hRv, hat, _⟩
  · rw [hD] at hat
    have e := hat (.lit (.int .i64 7))
    rw [at_] at e
    by_cases c1 : s.data.toList = [105, 110, 116]
    · rw [if_pos c1] at e; cases e
    · rw [if_neg c1] at e
      by_cases c2 : s.data.toList = [115, 116, 114, 105, 110, 103]
      · rw [if_pos c2] at e; cases e
      · rw [if_neg c1, if_neg c2]
        exact hrun
  · obtain ⟨n, rfl, hy⟩ := hR v y hRv
    rw [hD, hy] at hat
    have e := hat .nil
    rw [at_] at e
    by_cases c1 : s.data.toList = [105, 110, 116]
    · rw [if_pos c1] at e ⊢
      injection e with e
      injection e with _ e
      rw [← e] at hrun
      exact hrun
    · rw [if_neg c1] at e ⊢
      by_cases c2 : s.data.toList = [115, 116, 114, 105, 110, 103]
      · rw [if_pos c2] at e ⊢
        injection e with e
        injection e with _ e
        rw [← e] at hrun
        exact hrun
      · rw [if_neg c2] at e; cases e
theorem words_at {w : World} {bm : Nat} (h : ∀ s : ByteArray, s.size ≤ maxLen → (Instr.lookup 67 (.map (some bm)) (.string s) true).run Tryd.prog w = .ok (.tuple #[.int .i64 (wordOf s).1, .bool (wordOf s).2]) w) {s : ByteArray} {x : Int} {b : Bool} (hx : (if s.size ≤ maxLen then some (wordOf s) else none) = some (x, b)) :
    (Instr.lookup 67 (.map (some bm)) (.string s) true).run Tryd.prog w = .ok (.tuple #[.int .i64 x, .bool b]) w := by
  split at hx
  · rename_i hs
    have r := h s hs
    injection hx with hx
    rw [hx] at r
    exact r
  · cases hx
end Go.Proofs.YtmmfakdncjeoeacDoorAid
