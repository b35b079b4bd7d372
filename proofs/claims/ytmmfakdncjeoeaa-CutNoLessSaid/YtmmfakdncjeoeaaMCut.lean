/- Plain laws on cutting a trace into blocks (layer 16): what sort.Search finds; what the blocks are. -/
import Derived.Test.YtmmfakdncjeoeaaMBlock
import Derived.Test.YtmmfakdncjeoeaaPCx6
import Derived.Test.YtmmfakdncjeoeaaPCx7
import Derived.Test.YtmmfakdncjeoeaaPCx8
set_option linter.unusedVariables false
namespace Go.Proofs.Ytmmfakdncjeoeaa.MCut
open Go.RowKit Go.Proofs.Ytmmfakdncjeoeaa.PC Go.Proofs.Ytmmfakdncjeoeaa.MPts Go.Proofs.Ytmmfakdncjeoeaa.MPut Go.Proofs.Ytmmfakdncjeoeaa.MBlock Go.Proofs.Ytmmfakdncjeoeaa.MBase Go.Proofs.YtmmfakdncjeoeaaAid Go.Proofs.YtmmfakdncjeoeaaW.PrintWords Go.Proofs.YtmmfakdncjeoeaaW.PrintLast Go.Proofs.YtmmfakdncjeoeaaW.PrintMore

/-! ### parts of points that memory holds -/
theorem FitsN.sub {t u : List Pnt} (h : FitsN t) (hl : u.length ≤ t.length) (hs : ∀ p ∈ u, p ∈ t) : FitsN u :=
  ⟨⟨Nat.lt_of_le_of_lt hl h.1.1, fun p hp => h.1.2 p (hs p hp)⟩, fun p hp => h.2 p (hs p hp)⟩
theorem FitsN.take {t : List Pnt} (h : FitsN t) (n : Nat) : FitsN (t.take n) := FitsN.sub h (by rw [List.length_take]; omega) (fun p hp => List.mem_of_mem_take hp)
theorem FitsN.drop {t : List Pnt} (h : FitsN t) (n : Nat) : FitsN (t.drop n) := FitsN.sub h (by rw [List.length_drop]; omega) (fun p hp => List.mem_of_mem_drop hp)

/-! ### a checked trace's parts are checked -/
def okT (sig : List Pred) : Int → List Pnt → Prop
  | _, [] => True
  | a, p :: r => MTrace.ptc sig p a = 0 ∧ okT sig p.f0 r
theorem okT_trc (sig : List Pred) (t : List Pnt) : ∀ (n i : Nat) (a : Int), n + i = t.length → ((MTrace.trc sig t n i a).1 = 0 ↔ okT sig a (t.drop i))
  | 0, i, a => fun h => by rw [List.drop_eq_nil_of_le (by omega)]; exact ⟨fun _ => trivial, fun _ => rfl⟩
  | n + 1, i, a => fun h => by
    have hi : i < t.length := by omega
    rw [List.drop_eq_getElem_cons hi]
    simp only [MTrace.trc]
    rw [at_pt t i hi]
    have ih := okT_trc sig t n (i + 1) t[i].f0 (by omega)
    by_cases h0 : MTrace.ptc sig t[i] a = 0
    · rw [if_pos h0]
      exact ⟨fun hh => ⟨h0, ih.1 hh⟩, fun hh => ih.2 hh.2⟩
    · rw [if_neg h0]
      exact ⟨fun hh => absurd hh h0, fun hh => absurd hh.1 h0⟩
theorem okT_take (sig : List Pred) : ∀ (t : List Pnt) (a : Int) (n : Nat), okT sig a t → okT sig a (t.take n)
  | [], a, n => fun h => by rw [List.take_nil]; trivial
  | p :: r, a, 0 => fun h => trivial
  | p :: r, a, n + 1 => fun h => ⟨h.1, okT_take sig r p.f0 n h.2⟩
theorem ptc_low {sig : List Pred} {p : Pnt} {a : Int} (h0 : 0 ≤ p.f0) (h : MTrace.ptc sig p a = 0) : MTrace.ptc sig p 0 = 0 := by
  unfold MTrace.ptc at h ⊢
  rw [if_neg (by omega)]
  split at h
  · cases h
  · exact h
theorem okT_low {sig : List Pred} : ∀ {t : List Pnt} {a : Int}, (∀ p ∈ t, 0 ≤ p.f0) → okT sig a t → okT sig 0 t
  | [], a => fun _ h => trivial
  | p :: r, a => fun hp h => ⟨ptc_low (hp p List.mem_cons_self) h.1, h.2⟩
theorem okT_drop {sig : List Pred} : ∀ (t : List Pnt) (a : Int) (n : Nat), (∀ p ∈ t, 0 ≤ p.f0) → okT sig a t → okT sig 0 (t.drop n)
  | t, a, 0 => fun hp h => okT_low hp h
  | [], a, n + 1 => fun hp h => by rw [List.drop_nil]; trivial
  | p :: r, a, n + 1 => fun hp h => okT_drop r p.f0 n (fun q hq => hp q (List.mem_cons_of_mem _ hq)) h.2
theorem okT_check {sig : List Pred} {t : List Pnt} (hc : MSig.check sig = 0) : (MTrace.tcheck sig t).1 = 0 ↔ okT sig 0 t := by
  unfold MTrace.tcheck
  rw [if_pos hc]
  have := okT_trc sig t t.length 0 0 (by omega)
  rwa [List.drop_zero] at this

/-! ### the payload, however long -/
def bwhole (sig : List Pred) (t : List Pnt) : List Int × Int :=
  if t.length = 0 then ([], 1) else if (MTrace.tcheck sig t).1 = 0 then (if t.length > 1024 then ([], 6) else (pay t, 0)) else ([], (MTrace.tcheck sig t).1)
theorem whole_ev (sig : List Pred) (hs : MSig.Short sig) (t : List Pnt) (hf : FitsN t) : Ev (fun k => block_whole.f k sig t) (bwhole sig t) := by
  have hfit : MTrace.Fits t := hf.1.fits
  have hlt := hf.1.1
  unfold bwhole block_whole.f
  by_cases h0 : t.length = 0
  · rw [if_pos h0]
    exact Ev.congr (f := fun _ => some ([], 1)) (fun k => by rw [if_pos (by omega)]) (Ev.now _)
  · rw [if_neg h0]
    refine Ev.congr (fun k => by rw [if_neg (by omega)]) (Ev.bind (MTrace.tcheck_ev sig hs t hfit (by omega)) ?_)
    by_cases hc : (MTrace.tcheck sig t).1 = 0
    · rw [if_pos hc]
      obtain ⟨k1, k2, k3⟩ := tcheck_ok hc
      by_cases hl : t.length > 1024
      · rw [if_pos hl]
        exact Ev.congr (f := fun _ => some ([], 6)) (fun k => by rw [if_pos hc, if_pos (by omega)]) (Ev.now _)
      · rw [if_neg hl]
        exact Ev.congr (f := fun k => (block_payload.f k t).bind fun x => some (x, 0)) (fun k => by rw [if_pos hc, if_neg (by omega)]) (Ev.bind (payload_ev t sig (sig64 k1) hf.1 hf.2 (by omega) (by omega) k2) (Ev.now _))
    · rw [if_neg hc]
      exact Ev.congr (f := fun _ => some ([], (MTrace.tcheck sig t).1)) (fun k => by rw [if_neg hc]) (Ev.now _)
def big (sig : List Pred) (t : List Pnt) : Bool := decide ((bput sig t).2 ≠ 0)
theorem big_eq (sig : List Pred) (t : List Pnt) : (if (bwhole sig t).2 = 0 then decide ((((bwhole sig t).1.length : Nat) : Int) > 4096) else true) = big sig t := by
  unfold big bwhole bput
  by_cases h0 : t.length = 0
  · simp [h0]
  · rw [if_neg h0, if_neg h0]
    by_cases hc : (MTrace.tcheck sig t).1 = 0
    · rw [if_pos hc, if_pos hc]
      by_cases hl : t.length > 1024
      · simp [hl]
      · rw [if_neg hl, if_neg hl]
        by_cases hb : (pay t).length > 4096
        · simp [hb]
          omega
        · simp [hb]
          omega
    · simp [hc]
theorem closure_ev (sig : List Pred) (hs : MSig.Short sig) (t : List Pnt) (hf : FitsN t) (h : Nat) (hh : h < t.length) : Ev (fun k => cut_end_1.f k (h : Int) sig t) (big sig (t.take (h + 1))) := by
  have hlt := hf.1.1
  have e1 : wrap64 ((h : Int) + 1) = ((h + 1 : Nat) : Int) := by rw [w64 (by omega) (by omega)]; rfl
  unfold cut_end_1.f block_Size.f
  simp only [e1, if_pos (show (0 : Int) ≤ ((h + 1 : Nat) : Int) by omega), if_pos (show ((h + 1 : Nat) : Int) ≤ (t.length : Int) by omega), Int.toNat_natCast]
  refine Ev.bind (a := ((((bwhole sig (t.take (h + 1))).1.length : Nat) : Int), (bwhole sig (t.take (h + 1))).2)) (Ev.bind (whole_ev sig hs _ (FitsN.take hf _)) (Ev.now _)) ?_
  rw [← big_eq]
  dsimp only
  split
  · exact Ev.now _
  · exact Ev.now _

/-! ### sort.Search -/
theorem search_from (sig : List Pred) (hs : MSig.Short sig) (t : List Pnt) (hf : FitsN t) (m : Nat) (hm : m ≤ t.length) : ∀ (d i j : Nat), j - i ≤ d → i ≤ j → j ≤ m → (0 < i → big sig (t.take i) = false) → (j < m → big sig (t.take (j + 1)) = true) →
    ∃ r : Nat, Ev (fun k => sort_Search.l0 k sig t (i : Int) (j : Int)) (r : Int) ∧ r ≤ m ∧ (0 < r → big sig (t.take r) = false) ∧ (r < m → big sig (t.take (r + 1)) = true) := by
  have hlt := hf.1.1
  have stop : ∀ i : Nat, i ≤ m → (0 < i → big sig (t.take i) = false) → (i < m → big sig (t.take (i + 1)) = true) → ∃ r : Nat, Ev (fun k => sort_Search.l0 k sig t (i : Int) (i : Int)) (r : Int) ∧ r ≤ m ∧ (0 < r → big sig (t.take r) = false) ∧ (r < m → big sig (t.take (r + 1)) = true) := fun i him h1 h2 =>
    ⟨i, Ev.step (f := fun _ => some (i : Int)) (fun k => by simp only [sort_Search.l0]; rw [if_neg (by omega)]) (Ev.now _), him, h1, h2⟩
  intro d
  induction d with
  | zero =>
    intro i j h1 h2 h3 h4 h5
    obtain rfl : i = j := by omega
    exact stop i h3 h4 h5
  | succ d ih =>
    intro i j h1 h2 h3 h4 h5
    by_cases hij : i = j
    · subst hij
      exact stop i h3 h4 h5
    · obtain ⟨h, hh⟩ : ∃ h : Nat, (i + j) / 2 = h := ⟨_, rfl⟩
      have hb : i ≤ h ∧ h < j := by omega
      have e1 : wrap64 ((IntKind.u64.wrap (wrap64 ((i : Int) + (j : Int)))) / 2) = (h : Int) := by
        rw [w64 (x := (i : Int) + (j : Int)) (by omega) (by omega), wu64 (by omega) (by omega), w64 (by omega) (by omega)]
        omega
      have hc := closure_ev sig hs t hf h (by omega)
      cases hv : big sig (t.take (h + 1)) with
      | true =>
        obtain ⟨r, r1, r2⟩ := ih i h (by omega) hb.1 (by omega) h4 (fun _ => hv)
        refine ⟨r, Ev.step (f := fun k => (cut_end_1.f k (h : Int) sig t).bind fun t200 => (if t200 = true then (sort_Search.l0 k sig t (i : Int) (h : Int)) else (sort_Search.l0 k sig t (wrap64 ((h : Int) + 1)) (j : Int)))) (fun k => ?_) (Ev.bind hc ?_), r2⟩
        · simp only [sort_Search.l0]
          rw [if_pos (by omega), e1]
        · rw [hv]
          simpa using r1
      | false =>
        obtain ⟨r, r1, r2⟩ := ih (h + 1) j (by omega) (by omega) h3 (fun _ => hv) h5
        refine ⟨r, Ev.step (f := fun k => (cut_end_1.f k (h : Int) sig t).bind fun t200 => (if t200 = true then (sort_Search.l0 k sig t (i : Int) (h : Int)) else (sort_Search.l0 k sig t (wrap64 ((h : Int) + 1)) (j : Int)))) (fun k => ?_) (Ev.bind hc ?_), r2⟩
        · simp only [sort_Search.l0]
          rw [if_pos (by omega), e1]
        · rw [hv, w64 (x := (h : Int) + 1) (by omega) (by omega)]
          simpa using r1
theorem end_ev (sig : List Pred) (hs : MSig.Short sig) (t : List Pnt) (hf : FitsN t) (most : Nat) (hmost : 1 ≤ most) (h0 : 0 < t.length) (h1 : big sig (t.take 1) = false) :
    ∃ n : Nat, Ev (fun k => cut_end.f k sig t (most : Int)) (n : Int) ∧ 1 ≤ n ∧ n ≤ most ∧ n ≤ t.length ∧ big sig (t.take n) = false ∧ (n < most → n < t.length → big sig (t.take (n + 1)) = true) := by
  have hmn : mn (most : Int) (t.length : Int) = ((min most t.length : Nat) : Int) := by
    unfold mn
    split <;> omega
  obtain ⟨r, r1, r2, r3, r4⟩ := search_from sig hs t hf (min most t.length) (by omega) (min most t.length) 0 (min most t.length) (by omega) (by omega) (Nat.le_refl _) (fun h => absurd h (by omega)) (fun h => absurd h (by omega))
  have hr : 1 ≤ r := by
    rcases Nat.eq_zero_or_pos r with rfl | h
    · have := r4 (by omega)
      rw [Nat.zero_add, h1] at this
      cases this
    · exact h
  refine ⟨r, ?_, hr, by omega, by omega, r3 hr, fun h2 h3 => r4 (by omega)⟩
  unfold cut_end.f sort_Search.f
  rw [hmn]
  exact Ev.bind r1 (Ev.now _)
end Go.Proofs.Ytmmfakdncjeoeaa.MCut
