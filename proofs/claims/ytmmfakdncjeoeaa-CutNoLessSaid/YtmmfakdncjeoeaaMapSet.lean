/- A map that a call has made and fills: which keys it has, told by the list of what was put in; its values, where each is its key's place in that list. -/
import Derived.Maps.OwnSet
import Derived.DeepKeys5
import Derived.Test.YtmmfakdncjeoeaaWWords
import Derived.Test.YtmmfakdncjeoeaaWLast
namespace Go.Proofs.YtmmfakdncjeoeaaAid
open Go Go.RowKit Go.Maps
open Go.Proofs.YtmmfakdncjeoeaaW.PrintWords Go.Proofs.YtmmfakdncjeoeaaW.PrintWords.Kd

instance lawfulBytes : LawfulBEq ByteArray where
  eq_of_beq {a b} h := by
    cases a
    cases b
    congr
    exact eq_of_beq h
  rfl {a} := by
    cases a with | mk d => exact (beq_self_eq_true d : (d == d) = true)

structure KeyAs (P : Program) (k : TypeId) {κ : Type} (ok : κ → Prop) (kv : κ → Value) (kl : κ → Lit) : Prop where
  K : Keyed P k
  key : ∀ x, ok x → keyOf P k (kv x) = some (kl x)
  inj : ∀ x y, kv x = kv y → x = y

theorem KeyAs.ne {P : Program} {k : TypeId} {κ : Type} {ok : κ → Prop} {kv : κ → Value} {kl : κ → Lit} (h : KeyAs P k ok kv kl) {x y : κ} (hx : ok x) (hy : ok y) (hne : x ≠ y) : kl x ≠ kl y := by
  intro e
  have h1 := h.key x hx
  rw [e] at h1
  exact hne (h.inj x y (h.K.inj h1 (h.key y hy)))

section
variable {P : Program} {κ : Type} [BEq κ] [LawfulBEq κ]

def HasKeys (P : Program) (k e : TypeId) (ok : κ → Prop) (kl : κ → Lit) (w : World) (b : Nat) (acc : List κ) : Prop :=
  ∃ D : DataW Unit, w.ownsMap P k (plainElem P e) b acc.length D ∧ ∀ x, ok x → Maps.has D (kl x) = decide (x ∈ acc)

def HasPlaces (P : Program) (k e : TypeId) (ok : κ → Prop) (kl : κ → Lit) (w : World) (b : Nat) (acc : List κ) : Prop :=
  ∃ D : DataW Unit, w.ownsMap P k (plainElem P e) b acc.length D ∧ ∀ x, ok x → Maps.has D (kl x) = decide (x ∈ acc) ∧ D.atKey (kl x) (.lit (.int .i64 0)) = .lit (.int .i64 (if x ∈ acc then (acc.idxOf x : Int) else 0))

variable {k e : TypeId} {ok : κ → Prop} {kv : κ → Value} {kl : κ → Lit} {w : World} {b : Nat} {acc : List κ}

theorem HasPlaces.keys (h : HasPlaces P k e ok kl w b acc) : HasKeys P k e ok kl w b acc := by
  obtain ⟨D, h1, h2⟩ := h
  exact ⟨D, h1, fun x hx => (h2 x hx).1⟩
theorem HasKeys.lt (h : HasKeys P k e ok kl w b acc) : b < w.heap.size := by obtain ⟨D, h1, _⟩ := h; exact h1.lt
theorem HasKeys.below {base : Nat} (h : HasKeys P k e ok kl w b acc) {w1 : World} (hb : Below base w w1) (hl : w.heap.size ≤ base) : HasKeys P k e ok kl w1 b acc := by
  obtain ⟨D, h1, h2⟩ := h
  obtain ⟨es, clock, hb0, F, hs, hD⟩ := h1
  exact ⟨D, ⟨es, clock, (hb.block b (Nat.lt_of_lt_of_le (Array.getElem?_eq_some_iff.1 hb0).1 hl)).trans hb0, F, hs, hD⟩, h2⟩
theorem HasKeys.alloc (h : HasKeys P k e ok kl w b acc) (o : Obj) : HasKeys P k e ok kl (w.alloc o) b acc := by obtain ⟨D, h1, h2⟩ := h; exact ⟨D, h1.alloc o, h2⟩
theorem HasKeys.drew (h : HasKeys P k e ok kl w b acc) : HasKeys P k e ok kl w.drew b acc := by obtain ⟨D, h1, h2⟩ := h; exact ⟨D, h1.drew, h2⟩
theorem HasKeys.drewN (h : HasKeys P k e ok kl w b acc) (m : Nat) : HasKeys P k e ok kl (w.drewN m) b acc := by obtain ⟨D, h1, h2⟩ := h; exact ⟨D, h1, h2⟩
theorem HasKeys.grown (h : HasKeys P k e ok kl w b acc) {w1 : World} {row : Option Nat} (hg : w.grownBy w1 row) (hne : some b ≠ row) : HasKeys P k e ok kl w1 b acc := by obtain ⟨D, h1, h2⟩ := h; exact ⟨D, h1.kept hg hne, h2⟩
theorem HasKeys.ne {g : Nat} {cs : Array Value} {t : TypeId} (h : HasKeys P k e ok kl w b acc) (hg : w.heap[g]? = some (.cells cs t (0, 0))) : b ≠ g := by
  obtain ⟨D, ⟨es, clock, hb, _⟩, _⟩ := h
  rintro rfl
  rw [hg] at hb
  cases hb
theorem HasKeys.set (h : HasKeys P k e ok kl w b acc) {p : Addr} (hp : b ≠ p.block) (u : Value) : HasKeys P k e ok kl (w.setCell p u) b acc := by obtain ⟨D, h1, h2⟩ := h; exact ⟨D, h1.setCell hp u, h2⟩
theorem HasPlaces.below {base : Nat} (h : HasPlaces P k e ok kl w b acc) {w1 : World} (hb : Below base w w1) (hl : w.heap.size ≤ base) : HasPlaces P k e ok kl w1 b acc := by
  obtain ⟨D, h1, h2⟩ := h
  obtain ⟨es, clock, hb0, F, hs, hD⟩ := h1
  exact ⟨D, ⟨es, clock, (hb.block b (Nat.lt_of_lt_of_le (Array.getElem?_eq_some_iff.1 hb0).1 hl)).trans hb0, F, hs, hD⟩, h2⟩
theorem HasPlaces.alloc (h : HasPlaces P k e ok kl w b acc) (o : Obj) : HasPlaces P k e ok kl (w.alloc o) b acc := by obtain ⟨D, h1, h2⟩ := h; exact ⟨D, h1.alloc o, h2⟩
theorem HasPlaces.drew (h : HasPlaces P k e ok kl w b acc) : HasPlaces P k e ok kl w.drew b acc := by obtain ⟨D, h1, h2⟩ := h; exact ⟨D, h1.drew, h2⟩
theorem HasPlaces.drewN (h : HasPlaces P k e ok kl w b acc) (m : Nat) : HasPlaces P k e ok kl (w.drewN m) b acc := by obtain ⟨D, h1, h2⟩ := h; exact ⟨D, h1, h2⟩
theorem HasPlaces.grown (h : HasPlaces P k e ok kl w b acc) {w1 : World} {row : Option Nat} (hg : w.grownBy w1 row) (hne : some b ≠ row) : HasPlaces P k e ok kl w1 b acc := by obtain ⟨D, h1, h2⟩ := h; exact ⟨D, h1.kept hg hne, h2⟩
theorem HasPlaces.set (h : HasPlaces P k e ok kl w b acc) {p : Addr} (hp : b ≠ p.block) (u : Value) : HasPlaces P k e ok kl (w.setCell p u) b acc := by obtain ⟨D, h1, h2⟩ := h; exact ⟨D, h1.setCell hp u, h2⟩

theorem HasPlaces.made (w : World) : HasPlaces P k e ok kl (w.alloc (.map #[] 0)) w.heap.size ([] : List κ) :=
  ⟨.map [], World.ownsMap_made w P k _, fun _ _ => ⟨rfl, rfl⟩⟩
theorem HasKeys.made (w : World) : HasKeys P k e ok kl (w.alloc (.map #[] 0)) w.heap.size ([] : List κ) := (HasPlaces.made w).keys

variable {ops : Array Oper} {rest : List Oper} {o : Oper} {a : Act} {Q : Exit → Act → World → Prop}

theorem map_event (hg : o.guard = none) {N : Tmp} (_hd : o.dst = some N) (t : TypeId) (hop : o.op = .makeMap t none)
    (h : ∀ b w1, b = w.heap.size → HasPlaces P k e ok kl w1 b ([] : List κ) → Below w.heap.size w w1 → w.grownBy w1 none → wpList P ops Q rest (a.put o.dst (.map (some b))) w1) : wpList P ops Q (o :: rest) a w := by
  refine Kd.event_run (w1 := w.alloc (.map #[] 0)) (v := .map (some w.heap.size)) hg ?_ (h _ _ rfl (HasPlaces.made w) (below_alloc (Below.refl _ _) _) (World.grownBy_alloc w _ none))
  unfold execOp
  simp only [hop, Sem.run_bind, Sem.run_pure]
  rw [show Option.map a.eval none = none from rfl, run_makeMap]
  rfl

theorem has_event (KA : KeyAs P k ok kv kl) (hg : o.guard = none) (m x : Operand) (t : TypeId) (hop : o.op = Op.lookup t m x true) (ht : P.underlying t = some (.map k e)) (he : P.underlying e = some (.int .i64)) (hz : (zeroValue e).run P w = .ok (.int .i64 0) w)
    (hm : a.eval m = .map (some b)) (hown : HasKeys P k e ok kl w b acc) (y : κ) (hy : ok y) (hx : a.eval x = kv y)
    (hK : ∀ c : Int, wpList P ops Q rest (a.put o.dst (.tuple #[.int .i64 c, .bool (decide (y ∈ acc))])) w) : wpList P ops Q (o :: rest) a w := by
  obtain ⟨D, h1, h2⟩ := hown
  refine wpList_lookup_own_ok_int w hg m x t hop k e .i64 KA.K ht he hz b acc.length D hm h1 (kv y) (kl y) hx (KA.key y hy) (fun c _ _ => ?_)
  rw [h2 y hy]
  exact hK c

theorem place_event (KA : KeyAs P k ok kv kl) (hg : o.guard = none) (m x : Operand) (t : TypeId) (hop : o.op = Op.lookup t m x true) (ht : P.underlying t = some (.map k e)) (he : P.underlying e = some (.int .i64)) (hz : (zeroValue e).run P w = .ok (.int .i64 0) w)
    (hm : a.eval m = .map (some b)) (hown : HasPlaces P k e ok kl w b acc) (y : κ) (hy : ok y) (hx : a.eval x = kv y)
    (hK : wpList P ops Q rest (a.put o.dst (.tuple #[.int .i64 (if y ∈ acc then (acc.idxOf y : Int) else 0), .bool (decide (y ∈ acc))])) w) : wpList P ops Q (o :: rest) a w := by
  obtain ⟨D, h1, h2⟩ := hown
  refine wpList_lookup_own_ok_int w hg m x t hop k e .i64 KA.K ht he hz b acc.length D hm h1 (kv y) (kl y) hx (KA.key y hy) (fun c hc _ => ?_)
  obtain ⟨h3, h4⟩ := h2 y hy
  rw [h3]
  rw [h4] at hc
  injection hc with hc
  injection hc with _ hc
  rw [← hc]
  exact hK

theorem put_event (KA : KeyAs P k ok kv kl) (hg : o.guard = none) (m x v : Operand) (t : TypeId) (hop : o.op = Op.mapUpdate t m x v) (ht : P.underlying t = some (.map k e)) (he : P.underlying e = some (.int .i64))
    (hm : a.eval m = .map (some b)) (hown : HasKeys P k e ok kl w b acc) (hn : acc.length < 9223372036854775807) (y : κ) (hy : ok y) (hx : a.eval x = kv y) (c : Int) (hv : a.eval v = .int .i64 c) (hc : -9223372036854775808 ≤ c ∧ c ≤ 9223372036854775807)
    (hK : ∀ w', HasKeys P k e ok kl w' b (acc ++ [y]) → w.grownBy w' (some b) → wpList P ops Q rest (a.put o.dst undef) w') : wpList P ops Q (o :: rest) a w := by
  obtain ⟨D, h1, h2⟩ := hown
  have hwc : (Lit.int .i64 c).wf = true := by simp [Lit.wf, IntKind.min, IntKind.max, IntKind.signed, IntKind.bits]; omega
  refine wpList_mapUpdate_own w hg m x v t hop k e KA.K ht (plainElem P e) b acc.length D hm h1 (by simpa [maxLen] using hn) (kv y) (.int .i64 c) (kl y) hx hv (KA.key y hy) (.lit (.int .i64 c)) [] (plainElem_int he hwc) (fun w' h3 h4 => hK w' ⟨_, by simpa using h3, fun z hz => ?_⟩ h4)
  by_cases hzy : z = y
  · subst hzy
    rw [has_put_same h1.isMap (KA.K.key (KA.key z hz))]
    simp
  · rw [has_put_other (KA.ne hz hy hzy), h2 z hz]
    simp [hzy]

end
end Go.Proofs.YtmmfakdncjeoeaaAid
