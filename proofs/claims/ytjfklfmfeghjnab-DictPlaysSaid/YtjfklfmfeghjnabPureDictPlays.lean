/- Proved: tachographlaw13.DictPlays answers true at all texts, every text and every number: whatever texts are put in, what each call answers is the document's; what is written into what All answers is of no account. -/
import Derived.Test.YtjfklfmfeghjnabMPut
import Derived.Test.YtjfklfmfeghjnabPDx1
import Derived.Test.YtjfklfmfeghjnabPDx2
set_option linter.unusedVariables false
namespace Go.Proofs.Ytjfklfmfeghjnab.Pure
open Go.RowKit Go.Proofs.Ytjfklfmfeghjnab.PD Go.Proofs.Ytjfklfmfeghjnab.MPut Go.Proofs.Ytjfklfmfeghjnab.MBase Go.Proofs.YtjfklfmfeghjnabAid Go.Proofs.YtjfklfmfeghjnabW.PrintWords Go.Proofs.YtjfklfmfeghjnabW.PrintLast Go.Proofs.YtjfklfmfeghjnabW.PrintMore

theorem fixed13 : tachographlaw13_fixed.f = some true := by kernel_rfl
theorem rdOf_out (l : List ByteArray) (i : Int) (h0 : 0 ≤ i) (h : i < (l.length : Int)) : rdOf ByteArray.empty l i = l[i.toNat]'(by omega) := by
  obtain ⟨n, rfl⟩ := Int.eq_ofNat_of_zero_le h0
  exact at_s l n (by omega)
theorem plays_end (x : List ByteArray) (ask : ByteArray) (i : Int) (hx : x.length < 9223372036854775807) (hi : -9223372036854775808 ≤ i ∧ i < 9223372036854775808) (n : Int) (hn : n = if ask ∈ x then (x.idxOf ask : Int) else 0) (t : ByteArray) (is : Bool)
    (ht : if i < 0 ∨ (x.length : Int) ≤ i then t = ⟨#[]⟩ ∧ is = false else t = rdOf ByteArray.empty x i ∧ is = true) :
    Ev (fun k => tachographlaw13_DictPlays.j3 k i x n (decide (ask ∈ x)) (if ask ∈ x then (x.idxOf ask : Int) else -1) t is (decide (i < 0 ∨ (x.length : Int) ≤ i))) true := by
  have hmx : n = mx (if ask ∈ x then (x.idxOf ask : Int) else -1) 0 := by
    rw [hn]
    unfold mx
    by_cases h : ask ∈ x
    · simp only [if_pos h]
      split <;> omega
    · simp only [if_neg h]
      decide
  have hge : (decide (ask ∈ x) == decide ((if ask ∈ x then (x.idxOf ask : Int) else -1) ≥ 0)) = true := by
    by_cases h : ask ∈ x
    · rw [if_pos h, decide_eq_true h, decide_eq_true (by omega)]
      rfl
    · rw [if_neg h, decide_eq_false h, decide_eq_false (by omega)]
      rfl
  by_cases ho : i < 0 ∨ (x.length : Int) ≤ i
  · rw [if_pos ho] at ht
    obtain ⟨rfl, rfl⟩ := ht
    refine Ev.step (f := fun _ => some true) (fun k => ?_) (Ev.now _)
    simp only [tachographlaw13_DictPlays.j3]
    rw [if_pos (decide_eq_true ho), fixed13]
    simp only [Option.bind_some, if_true, Bool.false_eq_true, if_false]
    rw [if_pos (by rw [toList_eq]), if_pos hmx, hge]
  · rw [if_neg ho] at ht
    obtain ⟨rfl, rfl⟩ := ht
    refine Ev.step (f := fun _ => some true) (fun k => ?_) (Ev.now _)
    simp only [tachographlaw13_DictPlays.j3]
    rw [if_neg (by rw [decide_eq_true_eq]; exact ho), fixed13]
    simp only [Option.bind_some, if_true]
    rw [if_pos (by omega), if_pos (by omega), if_pos hmx, hge]
theorem plays_l1 (x : List ByteArray) (ask : ByteArray) (i : Int) (s : ByteArray) (hs : ddec s = x) (hask : ask.size ≤ 140737488351232) (hx : x.length < 8796093022208) (hi : -9223372036854775808 ≤ i ∧ i < 9223372036854775808) : ∀ (d q : Nat) (y : List ByteArray), d + q = y.length → y.length < 9223372036854775807 → (∀ z ∈ y, z.size ≤ 140737488351233) → (∀ j (h : j < y.length), q ≤ j → (y[j]).size ≤ 140737488351232) →
    Ev (fun k => tachographlaw13_DictPlays.l1 k ask i x y (y.length : Int) (q : Int) s) true
  | 0, q, y => fun hd hy hz hw => by
    have hf : dict_Dict_Find.f s ask = some ((if ask ∈ x then (x.idxOf ask : Int) else 0), decide (ask ∈ x), s) := by unfold dict_Dict_Find.f; rw [hs, if_pos (by omega)]
    obtain ⟨t, is, ht, hti⟩ : ∃ t is, dict_Dict_Text.f s i = some (t, is, s) ∧ (if i < 0 ∨ (x.length : Int) ≤ i then t = ⟨#[]⟩ ∧ is = false else t = rdOf ByteArray.empty x i ∧ is = true) := by
      unfold dict_Dict_Text.f
      rw [hs]
      by_cases ho : i < 0 ∨ (x.length : Int) ≤ i
      · rw [if_pos ho]
        exact ⟨_, _, rfl, by rw [if_pos ho]; exact ⟨rfl, rfl⟩⟩
      · rw [if_neg ho]
        exact ⟨_, _, rfl, by rw [if_neg ho]; exact ⟨rfl, rfl⟩⟩
    have he := plays_end x ask i (by omega) hi _ rfl t is hti
    refine Ev.step (f := fun k => (tachographref13_Place.f k x ask).bind fun t146 => tachographlaw13_DictPlays.j3 k i x (if ask ∈ x then (x.idxOf ask : Int) else 0) (decide (ask ∈ x)) t146 t is (decide (i < 0 ∨ (x.length : Int) ≤ i))) (fun k => ?_) (Ev.bind (place_ev x ask (by omega)) he)
    simp only [tachographlaw13_DictPlays.l1]
    rw [if_neg (by omega), hf]
    simp only [Option.bind_some, ht]
    by_cases h0 : i < 0
    · simp only [if_pos h0, decide_eq_true (Or.inl h0 : i < 0 ∨ (x.length : Int) ≤ i)]
    · simp only [if_neg h0]
      have e : decide (i ≥ (x.length : Int)) = decide (i < 0 ∨ (x.length : Int) ≤ i) := decide_eq_decide.2 ⟨fun h => Or.inr h, fun h => h.resolve_left h0⟩
      rw [e]
  | d + 1, q, y => fun hd hy hz hw => by
    have hq : q < y.length := by omega
    have hwq := hw q hq (Nat.le_refl _)
    have e3 : (y[q] ++ (⟨#[33]⟩ : ByteArray)).size = y[q].size + 1 := by simp [ByteArray.size_append]; rfl
    have ih := plays_l1 x ask i s hs hask hx hi d (q + 1) (y.set q (y[q] ++ (⟨#[33]⟩ : ByteArray))) (by rw [List.length_set]; omega) (by rw [List.length_set]; omega)
      (fun z hz' => by
        rcases List.mem_or_eq_of_mem_set hz' with h | h
        · exact hz z h
        · rw [h, e3]; omega)
      (fun j hj hqj => by
        rw [List.getElem_set_ne (by omega)]
        exact hw j (by rw [List.length_set] at hj; exact hj) (by omega))
    rw [List.length_set] at ih
    refine Ev.step (f := fun k => tachographlaw13_DictPlays.l1 k ask i x (y.set q (y[q] ++ (⟨#[33]⟩ : ByteArray))) (y.length : Int) ((q + 1 : Nat) : Int) s) (fun k => ?_) ih
    simp only [tachographlaw13_DictPlays.l1]
    rw [if_pos (by omega), if_pos (by omega), if_pos (by omega), at_s y q hq, if_pos (by omega), w64 (by omega) (by omega), Int.toNat_natCast]
    rfl
theorem plays_l0 (l : List ByteArray) (ask : ByteArray) (i : Int) (hl : l.length ≤ 200) (hask : ask.size ≤ 140737488351232) (hi : -9223372036854775808 ≤ i ∧ i < 9223372036854775808) : ∀ (d q : Nat) (s : ByteArray), d + q = l.length → (ddec s).length ≤ q → (∀ z ∈ ddec s, z.size ≤ 300) → Ev (fun k => tachographlaw13_DictPlays.l0 k ask i (ddec s) l (l.length : Int) (q : Int) s) true
  | 0, q, s => fun hd hs hz => by
    have hall : dict_Dict_All.f s = some (ddec s, s) := by unfold dict_Dict_All.f; rw [if_pos (by omega)]
    refine Ev.step (f := fun k => (tachographref02_Same.f k (ddec s) (ddec s)).bind fun t140 => if t140 = true then tachographlaw13_DictPlays.l1 k ask i (ddec s) (ddec s) ((ddec s).length : Int) 0 s else some false) (fun k => ?_) (Ev.bind (same_ev _ (by omega)) ?_)
    · simp only [tachographlaw13_DictPlays.l0]
      rw [if_neg (by omega), hall]
      rfl
    · simp only [if_true]
      exact plays_l1 (ddec s) ask i s rfl hask (by omega) hi _ 0 (ddec s) rfl (by omega) (fun z h => by have := hz z h; omega) (fun j h _ => by have := hz _ (List.getElem_mem h); omega)
  | d + 1, q, s => fun hd hs hz => by
    have hq : q < l.length := by omega
    by_cases hg : (l[q].size : Int) > 300
    · refine Ev.step (f := fun _ => some true) (fun k => ?_) (Ev.now _)
      simp only [tachographlaw13_DictPlays.l0]
      rw [if_pos (by omega), if_pos (by omega), if_pos (by omega), at_s l q hq, if_pos hg, fixed13]
      rfl
    · obtain ⟨n, hp, hn⟩ := dput_eq s l[q] (by omega) (by omega)
      have hln := put_len (ddec s) l[q]
      have ih := plays_l0 l ask i hl hask hi d (q + 1) (putS s l[q]) (by omega) (by rw [ddec_putS]; omega) (fun z h => by
        rw [ddec_putS, mem_put] at h
        rcases h with h | h
        · exact hz z h
        · rw [h]; omega)
      rw [ddec_putS] at ih
      refine Ev.step (f := fun k => (tachographref13_Put.f k (ddec s) l[q]).bind fun bt130 => if n = bt130.2 then tachographlaw13_DictPlays.l0 k ask i bt130.1 l (l.length : Int) ((q + 1 : Nat) : Int) (putS s l[q]) else some false) (fun k => ?_) (Ev.bind (rput_ev (ddec s) l[q] (by omega)) ?_)
      · simp only [tachographlaw13_DictPlays.l0]
        rw [if_pos (by omega), if_pos (by omega), if_pos (by omega), at_s l q hq, if_neg hg, hp, w64 (by omega) (by omega)]
        rfl
      · simp only [hn, if_true]
        exact ih
theorem DictPlays : tachographlaw13_DictPlays.Pure := by
  intro l ask i hl hask hi
  refine Ev.rounds ?_
  have hi' := wf_i64 hi
  have hj : ∀ b : Bool, (b = false → l.length ≤ 200) → Ev (fun k => tachographlaw13_DictPlays.j0 k l ask i b) true := fun b hb => by
    cases b
    · refine Ev.step (f := fun k => tachographlaw13_DictPlays.l0 k ask i [] l (l.length : Int) 0 (denc [])) (fun k => ?_) ?_
      · simp only [tachographlaw13_DictPlays.j0, dict_New.f, Option.bind_some, Bool.false_eq_true, if_false]
      · have h := plays_l0 l ask i (hb rfl) hask hi' l.length 0 (denc []) (by omega) (by rw [ddec_enc]; simp) (by rw [ddec_enc]; intro z h; cases h)
        rw [ddec_enc] at h
        exact h
    · refine Ev.step (f := fun _ => some true) (fun k => ?_) (Ev.now _)
      simp only [tachographlaw13_DictPlays.j0, if_true]
      rw [fixed13]
      rfl
  unfold tachographlaw13_DictPlays.f
  by_cases h : (l.length : Int) > 200
  · simp only [if_pos h]
    exact hj true (fun h => by cases h)
  · simp only [if_neg h]
    exact hj _ (fun _ => by omega)
end Go.Proofs.Ytjfklfmfeghjnab.Pure
