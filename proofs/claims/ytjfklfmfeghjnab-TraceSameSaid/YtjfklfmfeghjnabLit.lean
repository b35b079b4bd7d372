/- Literals whose elements share rows: told as what is read. -/
import Derived.Test.YtjfklfmfeghjnabAid
import Derived.ChangeKeysEq
namespace Go.Proofs.YtjfklfmfeghjnabAid
open Go Go.RowKit
open Go.Proofs.YtjfklfmfeghjnabW.PrintWords Go.Proofs.YtjfklfmfeghjnabW.PrintWords.Kd
variable {P : Program}

theorem C_of_block {α : Type} (d : Kd α) {W : World} {b : Nat} {inner : List Value} {e : TypeId} {fr : Nat × Nat} {xs : List α} (hb : W.heap[b]? = some (.cells inner.toArray e fr)) (hr : Reps (d.K W) d.sz xs inner) (hl : xs.length ≤ 9223372036854775807) :
    d.C W (some ⟨b, 0, none⟩) xs.length xs := by
  refine ⟨rfl, hl, fun _ => ⟨⟨b, 0, none⟩, rfl, fun j p hj => ⟨(inner.drop (j * d.sz)).take d.sz, d.K_len (hr.2 j p hj), hr.2 j p hj, fun i u hu => ?_⟩⟩⟩
  have hlt : i < d.sz := by
    rcases Nat.lt_or_ge i d.sz with h | h
    · exact h
    · rw [List.getElem?_eq_none (by rw [d.K_len (hr.2 j p hj)]; exact h)] at hu; cases hu
  rw [List.getElem?_take_of_lt hlt, List.getElem?_drop] at hu
  rw [add_plain]
  simp only [World.cell?, hb]
  simpa using hu

/-- A literal '[]T{..}' whose elements' rows are read. -/
theorem lit_C {α : Type} (d : Kd α) (xs : List α) (inner : List Value) {ops : Array Oper} {rest : List Oper} {o : Oper} {a : Act} {Q : Exit → Act → World → Prop} {W : World} (hgd : o.guard = none) {N : Tmp} (_hd : o.dst = some N) (e : TypeId)
    (hr : (execOp a.eval o).run P W = .ok (.value (.slice (some ⟨W.heap.size, 0, none⟩) xs.length xs.length)) (W.alloc (.cells inner.toArray e)))
    (hp : Reps (d.K W) d.sz xs inner) (hl : xs.length ≤ 9223372036854775807)
    (h : ∀ b w1, b = W.heap.size → d.C w1 (some ⟨b, 0, none⟩) xs.length xs → Below W.heap.size W w1 → wpList P ops Q rest (a.put o.dst (.slice (some ⟨b, 0, none⟩) xs.length xs.length)) w1) : wpList P ops Q (o :: rest) a W := by
  have hb : Below W.heap.size W (W.alloc (.cells inner.toArray e)) := below_alloc (Below.refl _ _) _
  refine event_run hgd hr (h _ _ rfl (C_of_block d (b := W.heap.size) (World.alloc_heap_new _ _) ⟨hp.1, fun j p hj => d.K_below hb (hp.2 j p hj)⟩ hl) hb)
theorem heap_at {W : World} {o : Obj} {i : Nat} (h : i = W.heap.size) : (W.alloc o).heap[i]? = some o := by subst h; exact World.alloc_heap_new _ _
theorem heap_old {W : World} {o : Obj} {i : Nat} {x : Obj} (h : i < W.heap.size) (hx : W.heap[i]? = some x) : (W.alloc o).heap[i]? = some x := (Below.heap_alloc _ _ _ h).trans hx
end Go.Proofs.YtjfklfmfeghjnabAid
