/- sigtext.word, walked: a range over the map of words, in whatever order. -/
import Derived.Test.YtmmfakdncjeoeacDoorWords
import Derived.Maps.Range
import Derived.Sort.MapsRangeIn
namespace Go.Proofs.YtmmfakdncjeoeacDoorAid
open Go Go.RowKit Go.WideMaps Go.WideElems
open Go.Proofs.YtmmfakdncjeoeacDoorW.PrintWords Go.Proofs.YtmmfakdncjeoeacDoorW.PrintLast
set_option linter.unusedVariables false
set_option linter.unusedSimpArgs false
def wordText (t : Int) : ByteArray := if t = 1 then ⟨#[105, 110, 116]⟩ else if t = 2 then ⟨#[115, 116, 114, 105, 110, 103]⟩ else ⟨#[]⟩
theorem words_at_key {kl : Lit} {y : DataW Unit} (h : ∀ zd : DataW Unit, wordsD.atKey kl zd = y) : (kl = .string [105, 110, 116] ∧ y = .lit (.int .i64 1)) ∨ (kl = .string [115, 116, 114, 105, 110, 103] ∧ y = .lit (.int .i64 2)) := by
  have h1 := h (.lit (.int .i64 7))
  have h2 := h .nil
  by_cases c1 : (Lit.string [105, 110, 116]).sameKey kl = true
  · have e := WideAt.sameKey_eq c1
    refine .inl ⟨e.symm, ?_⟩
    rw [← h2, ← e]
    rfl
  · by_cases c2 : (Lit.string [115, 116, 114, 105, 110, 103]).sameKey kl = true
    · have e := WideAt.sameKey_eq c2
      refine .inr ⟨e.symm, ?_⟩
      rw [← h2, ← e]
      rfl
    · exfalso
      have b1 := eq_false_of_ne_true c1
      have b2 := eq_false_of_ne_true c2
      simp only [wordsD, DataW.atKey, List.find?, b1, b2] at h1 h2
      rw [← h1] at h2
      cases h2
def Unseen (t : Int) (left : Lit → Bool) : Prop := (left (.string [105, 110, 116]) = false → t ≠ 1) ∧ (left (.string [115, 116, 114, 105, 110, 103]) = false → t ≠ 2)
set_option maxRecDepth 1000000 in
set_option maxHeartbeats 4000000 in
theorem word_calls (t : Int) (w : World) (hg : Words w) : Calls Tryd.prog 32 #[.int .i64 t] w fun e w' => e = .returned (.string (wordText t)) ∧ Below w.heap.size w w' := by
  obtain ⟨bm, es, clock, R, h1, h2, hF, hD, hR⟩ := hg
  have K : Go.Maps.Keyed Tryd.prog 9 := Go.Maps.Keyed.of_law wlaw
  have hown : w.ownsMap Tryd.prog 9 R bm es.size wordsD := ⟨es, clock, h2, hF, Nat.le_refl _, hD.symm⟩
  obtain ⟨wi, hrg, hrs, hgi, hsz⟩ := hown.range K Tryd.underlying67
  have hbi : Below w.heap.size w wi := ⟨hgi.os, hgi.tape, hgi.output, hgi.size, fun k hk => hgi.block k hk (by simp)⟩
  go_enter Tryd.func32, Tryd.ntmps32
  go_wp2
  go_loopw [] (fun w' => Below w.heap.size w w' ∧ ∃ left cnt, w'.ranges Tryd.prog 9 R bm w.heap.size es.size wordsD left cnt ∧ Unseen t left) (fun w' => w'.rangeLeft bm w.heap.size)
  case atStart => exact ⟨hbi, _, _, hrs, ⟨fun h => absurd h (by decide), fun h => absurd h (by decide)⟩⟩
  case round =>
    obtain ⟨hb, left, cnt, hr, hu⟩ := hrel
    rcases hr.next K 0 with ⟨h0, hl, hnx⟩ | ⟨key, v, kl, y, w2, cnt', hk, hl, hv, hat, hnx, hr2, hc, hg2, hs2, hen⟩
    · go_wp2
      go_ret
      have e1 := hu.1 (hl _)
      have e2 := hu.2 (hl _)
      have e : wordText t = ⟨#[]⟩ := by unfold wordText; rw [if_neg e1, if_neg e2]
      rw [e]
      exact ⟨rfl, hb⟩
    · have hb2 : Below w.heap.size w w2 := ⟨hg2.os.trans hb.os, hg2.tape.trans hb.tape, hg2.output.trans hb.output, Nat.le_trans hb.size hg2.size, fun k hk => (hg2.block k (Nat.lt_of_lt_of_le hk hb.size) (by intro e; injection e with e; omega)).trans (hb.block k hk)⟩
      obtain ⟨n, rfl, hy⟩ := hR v y hv
      obtain ⟨s, rfl⟩ := Maps.keyOf_string_inv Tryd.underlying9 hk
      have hks : kl = .string s.data.toList := by
        rw [keyOf_string Tryd.underlying9] at hk
        unfold mapKey at hk
        rw [Tryd.underlying9] at hk
        simp only at hk
        split at hk
        · injection hk with hk
          exact hk.symm
        · cases hk
      have hkv := words_at_key hat
      have hword : t = n → wordText t = s := by
        rintro rfl
        rcases hkv with ⟨e1, e2⟩ | ⟨e1, e2⟩
        · rw [hy] at e2
          injection e2 with e2
          injection e2 with _ e2
          subst e2
          rw [hks] at e1
          injection e1 with e1
          cases s with
          | mk d => exact congrArg ByteArray.mk (Array.toList_inj.1 (by simpa using e1.symm))
        · rw [hy] at e2
          injection e2 with e2
          injection e2 with _ e2
          subst e2
          rw [hks] at e1
          injection e1 with e1
          cases s with
          | mk d => exact congrArg ByteArray.mk (Array.toList_inj.1 (by simpa using e1.symm))
      have hnext : t ≠ n → Unseen t (fun x => left x && !x.sameKey kl) := by
        intro hne
        refine ⟨fun h => ?_, fun h => ?_⟩
        · simp only [Bool.and_eq_false_iff, Bool.not_eq_false'] at h
          rcases h with h | h
          · exact hu.1 h
          · have e := WideAt.sameKey_eq h
            rcases hkv with ⟨e1, e2⟩ | ⟨e1, e2⟩
            · rw [hy] at e2
              injection e2 with e2
              injection e2 with _ e2
              rw [← e2]
              exact hne
            · rw [← e] at e1
              cases e1
        · simp only [Bool.and_eq_false_iff, Bool.not_eq_false'] at h
          rcases h with h | h
          · exact hu.2 h
          · have e := WideAt.sameKey_eq h
            rcases hkv with ⟨e1, e2⟩ | ⟨e1, e2⟩
            · rw [← e] at e1
              cases e1
            · rw [hy] at e2
              injection e2 with e2
              injection e2 with _ e2
              rw [← e2]
              exact hne
      go_wp2
      · rename_i heq
        go_ret
        rw [hword (beq_iff_eq.1 heq).symm]
        exact ⟨rfl, hb2⟩
      · rename_i hne
        go_roundw
        case rel => exact ⟨hb2, _, _, hr2, hnext (fun e => by rw [e, beq_self_eq_true] at hne; cases hne)⟩
        case measure =>
          rw [hr2.left_eq, hr.left_eq]
          exact hc
end Go.Proofs.YtmmfakdncjeoeacDoorAid
