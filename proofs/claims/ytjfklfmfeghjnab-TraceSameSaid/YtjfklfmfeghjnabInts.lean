/- Rows in which whole numbers alone are written: which blocks stay, which are the same but for ints. -/
import Derived.Test.YtjfklfmfeghjnabAid
namespace Go.Proofs.YtjfklfmfeghjnabAid
open Go Go.RowKit
open Go.Proofs.YtjfklfmfeghjnabW.PrintWords
def Alike (c c' : Value) : Prop := c = c' ∨ ∃ kd a b, c = .int kd a ∧ c' = .int kd b
/-- Block k: the same in both worlds, but for ints. -/
def BlkInts (w w' : World) (k : Nat) : Prop := ∃ (cs cs' : Array Value) (e : TypeId), w.heap[k]? = some (.cells cs e (0, 0)) ∧ w'.heap[k]? = some (.cells cs' e (0, 0)) ∧ ∀ (q : Nat) (c : Value), cs[q]? = some c → ∃ c', cs'[q]? = some c' ∧ Alike c c'
/-- Blocks of P are the same but for ints, all others as they were. -/
def Ints (P : Nat → Prop) (w w' : World) : Prop := (∀ k, P k → BlkInts w w' k) ∧ (∀ k, k < w.heap.size → ¬ P k → w'.heap[k]? = w.heap[k]?)
theorem Ints.refl {P : Nat → Prop} {w : World} (h : ∀ k, P k → ∃ cs e, w.heap[k]? = some (.cells cs e (0, 0))) : Ints P w w :=
  ⟨fun k hk => by obtain ⟨cs, e, hb⟩ := h k hk; exact ⟨cs, cs, e, hb, hb, fun q c hc => ⟨c, hc, .inl rfl⟩⟩, fun _ _ _ => rfl⟩
theorem Ints.num {P : Nat → Prop} {w w' : World} (h : Ints P w w') {g q : Nat} (hg : P g) {kd : IntKind} {a : Int} (hc : w.cell? ⟨g, q, none⟩ = some (.int kd a)) : ∃ b, w'.cell? ⟨g, q, none⟩ = some (.int kd b) := by
  obtain ⟨cs, cs', e, h1, h2, h3⟩ := h.1 g hg
  rw [blk_cell h1] at hc
  obtain ⟨c', hc', hal⟩ := h3 q _ hc
  rw [blk_cell h2, hc']
  rcases hal with rfl | ⟨kd2, x, y, e1, e2⟩
  · exact ⟨a, rfl⟩
  · injection e1 with e1 e3
    subst e1
    exact ⟨y, by rw [e2]⟩
theorem Ints.other {P : Nat → Prop} {w w' : World} (h : Ints P w w') {g q : Nat} (hg : P g) {v : Value} (hv : ∀ kd a, v ≠ .int kd a) (hc : w.cell? ⟨g, q, none⟩ = some v) : w'.cell? ⟨g, q, none⟩ = some v := by
  obtain ⟨cs, cs', e, h1, h2, h3⟩ := h.1 g hg
  rw [blk_cell h1] at hc
  obtain ⟨c', hc', hal⟩ := h3 q _ hc
  rw [blk_cell h2, hc']
  rcases hal with rfl | ⟨kd2, x, y, e1, _⟩
  · rfl
  · exact absurd e1 (hv _ _)
theorem Ints.frozen {P : Nat → Prop} {w w' : World} (h : Ints P w w') {g : Nat} (hg : P g) (q : Nat) : w'.frozen? ⟨g, q, none⟩ = false := by
  obtain ⟨_, _, _, _, h2, _⟩ := h.1 g hg
  exact blk_frozen h2 q
theorem Ints.set {P : Nat → Prop} {w w' : World} (h : Ints P w w') {g q : Nat} (hg : P g) {kd : IntKind} {a : Int} (hc : w.cell? ⟨g, q, none⟩ = some (.int kd a)) (b : Int) : Ints P w (w'.setCell ⟨g, q, none⟩ (.int kd b)) := by
  refine ⟨fun k hk => ?_, fun k hk hn => (Below.heap_setCell w' ⟨g, q, none⟩ _ k (fun e => hn (by rw [e]; exact hg))).trans (h.2 k hk hn)⟩
  obtain ⟨cs, cs', e, h1, h2, h3⟩ := h.1 k hk
  by_cases hkg : k = g
  · subst hkg
    refine ⟨cs, cs'.setIfInBounds q (.int kd b), e, h1, blk_put h2 q _ rfl, fun r c hr => ?_⟩
    obtain ⟨c', hc', hal⟩ := h3 r c hr
    by_cases hrq : r = q
    · subst hrq
      rw [blk_cell h1, hr] at hc
      injection hc with hc
      have hlt : r < cs'.size := (Array.getElem?_eq_some_iff.1 hc').1
      exact ⟨.int kd b, by rw [Array.getElem?_setIfInBounds_self_of_lt hlt], .inr ⟨kd, a, b, hc, rfl⟩⟩
    · exact ⟨c', by rw [Array.getElem?_setIfInBounds_ne (Ne.symm hrq)]; exact hc', hal⟩
  · exact ⟨cs, cs', e, h1, blk_far h2 hkg _, h3⟩
theorem Ints.heap {P : Nat → Prop} {w w' w2 : World} (h : Ints P w w') (e : w2.heap = w'.heap) : Ints P w w2 := by
  unfold Ints BlkInts at h ⊢
  rw [e]
  exact h
theorem Ints.drewN {P : Nat → Prop} {w w' : World} (h : Ints P w w') (m : Nat) : Ints P w (w'.drewN m) := h.heap rfl
theorem Ints.drew {P : Nat → Prop} {w w' : World} (h : Ints P w w') : Ints P w w'.drew := h.heap rfl
/-- An element of a row of the call's own: where its cells are, and what they are. -/
theorem row_at {α : Type} {d : Kd α} {e base : Nat} {ok : Nat → Prop} {w : World} {v : Value} {xs : List α} (h : d.R e w base ok v xs) (z : α) (i : Int) (h0 : 0 ≤ i) (h1 : i < xs.length) :
    ∃ g cap c, v = .slice (some ⟨g, 0, none⟩) xs.length cap ∧ ok g ∧ d.M w base ok (xs.getD i.toNat z) c ∧ ∀ j u, c[j]? = some u → w.cell? ⟨g, i.toNat * d.sz + j, none⟩ = some u := by
  obtain ⟨g, cap, rfl, _⟩ := Kd.R_form h (by omega)
  obtain ⟨c, hcl, hM, hcc, _⟩ := Kd.R_elem h z i h0 h1
  exact ⟨g, cap, c, rfl, h.1 g rfl, d.M_mono (fun k hk => hk.1) hM, hcc⟩
/-- Two clones, one after the other: where the latter's blocks begin. -/
theorem two_clones {α : Type} {d : Kd α} {e base : Nat} {W w1 : World} {ok ok' : Nat → Prop} {u v : Value} {xs ys : List α} (hu : d.R e W base ok u xs) (hv : d.R e w1 W.heap.size ok' v ys) (hb : Below W.heap.size W w1) :
    ∃ lo, d.R e w1 base (fun k => k < lo) u xs ∧ d.R e w1 lo (fun _ => True) v ys :=
  ⟨W.heap.size, Kd.R_below (Kd.R_mono (Kd.R_bound hu) (fun _ hk => hk.2.2.1)) hb, Kd.R_mono hv (fun _ _ => trivial)⟩
theorem ints_start {α : Type} {d : Kd α} {e base lo : Nat} {w1 : World} {u v : Value} {xs ys : List α} (hu : d.R e w1 base (fun k => k < lo) u xs) (hv : d.R e w1 lo (fun _ => True) v ys) :
    ∃ (P : Nat → Prop) (w0 : World), (∀ k, P k → base ≤ k ∧ k < lo) ∧ d.R e w0 base P u xs ∧ Ints P w0 w1 ∧ d.R e w0 lo (fun _ => True) v ys := by
  refine ⟨fun k => base ≤ k ∧ k < lo ∧ ∃ cs e, w1.heap[k]? = some (.cells cs e (0, 0)), w1, fun k hk => ⟨hk.1, hk.2.1⟩, Kd.R_mono (Kd.R_bound hu) (fun _ hk => ?_), Ints.refl (fun k hk => hk.2.2), hv⟩
  obtain ⟨h1, h2, _, q, _, cs, hc⟩ := hk
  exact ⟨h2, h1, cs, q, hc⟩
/-- A row behind the blocks that were written. -/
theorem Ints.row {α : Type} {d : Kd α} {e lo : Nat} {P : Nat → Prop} {w w' : World} {v : Value} {ys : List α} (h : Ints P w w') (hP : ∀ k, P k → k < lo) (hv : d.R e w lo (fun _ => True) v ys) : d.R e w' lo (fun _ => True) v ys :=
  Kd.R_mono (Kd.R_move (Kd.R_bound hv) (fun k hk => h.2 k hk.2.2.1 (fun hp => by have := hP k hp; have := hk.2.1; omega))) (fun _ _ => trivial)
end Go.Proofs.YtjfklfmfeghjnabAid
