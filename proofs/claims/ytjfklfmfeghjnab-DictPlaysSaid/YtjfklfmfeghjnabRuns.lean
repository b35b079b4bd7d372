/- dict.Runs: its map of shapes (two whole numbers), as a list of what was put in. -/
import Derived.Test.YtjfklfmfeghjnabDictPut
namespace Go.Proofs.YtjfklfmfeghjnabAid
open Go Go.RowKit Go.Maps Go.ChangeMaps Go.MapKept
open Go.Proofs.YtjfklfmfeghjnabW.PrintWords Go.Proofs.YtjfklfmfeghjnabW.PrintWords.Kd Go.Proofs.YtjfklfmfeghjnabW.PrintLast Go.Proofs.YtjfklfmfeghjnabW.PrintMore

def i64r (x : Int) : Prop := -9223372036854775808 ≤ x ∧ x ≤ 9223372036854775807
instance (x : Int) : Decidable (i64r x) := by unfold i64r; infer_instance
def rok (x : Int × Int) : Prop := i64r x.1 ∧ i64r x.2
def rkv (x : Int × Int) : Value := .agg #[.int .i64 x.1, .int .i64 x.2]
def rkl (x : Int × Int) : Lit := .string (keyBytes [.int .i64 x.1, .int .i64 x.2])
theorem i64r_wf {x : Int} (h : i64r x) : (Lit.int .i64 x).wf = true := by
  unfold i64r at h
  simp [Lit.wf, IntKind.min, IntKind.max, IntKind.signed, IntKind.bits]
  omega
theorem rkeyOf (x : Int × Int) (hx : rok x) : Go.keyOf Try.prog 104 (rkv x) = some (rkl x) := by
  have h1 : Try.prog.keyType 104 = true := by kernel_rfl
  have h2 : Try.prog.cellsOf 104 = 2 := by kernel_rfl
  have h3 : Try.prog.cellsOf 3 = 1 := by kernel_rfl
  have h4 : (rkv x).formed Try.prog 104 = true := by simp [rkv, Value.formed, Try.underlying104, h2]
  have h6 : Try.prog.types.size + 1 = (Try.prog.types.size - 1) + 1 + 1 := by
    have : 0 < Try.prog.types.size := of_decide_eq_true (by kernel_rfl)
    omega
  have w1 := i64r_wf hx.1
  have w2 := i64r_wf hx.2
  have h5 : Try.prog.keyLits (Try.prog.types.size + 1) 104 [.int .i64 x.1, .int .i64 x.2] = some [.int .i64 x.1, .int .i64 x.2] := by
    rw [h6]
    generalize Try.prog.types.size - 1 = m
    unfold Program.keyLits
    rw [Try.underlying104]
    simp only [h2, List.length_cons, List.length_nil]
    unfold Program.keyLits
    simp [Try.underlying3, h3, w1, w2]
  unfold Go.keyOf
  rw [Try.underlying104]
  simp only [h1, h4, Bool.and_self, if_true]
  show (Try.prog.keyLits (Try.prog.types.size + 1) 104 [.int .i64 x.1, .int .i64 x.2]).map _ = _
  rw [h5]
  rfl
theorem rkeys : KeyAs Try.prog 104 rok rkv rkl where
  K := Keyed.of_law (deep_law_gate (by kernel_rfl) (of_decide_eq_true (by kernel_rfl)) (of_decide_eq_true (by kernel_rfl)) (by kernel_rfl) (by kernel_rfl))
  key := rkeyOf
  inj := fun x y h => by
    simp only [rkv, Value.agg.injEq] at h
    injection h with h
    injection h with h1 h
    injection h with h2 h
    injection h1 with _ h1
    injection h2 with _ h2
    exact Prod.ext h1 h2
/-- The map in block g: which shapes it has, in which places. -/
def RunsM (w0 W : World) (g : Nat) (m : List (Int × Int)) : Prop := HasPlaces Try.prog 104 3 rok rkl W g m ∧ w0.heap.size ≤ g
section
variable {w0 W W1 w : World} {g : Nat} {m m2 : List (Int × Int)}
theorem RunsM.map_ty (h : RunsM w0 W g m) : ∃ es clock, W.heap[g]? = some (.map es clock) := by
  obtain ⟨⟨D, ⟨es, clock, hb, _⟩, _⟩, _⟩ := h
  exact ⟨es, clock, hb⟩
theorem RunsM.below (h : RunsM w0 W g m) (hw : Below W.heap.size W W1) : RunsM w0 W1 g m := ⟨h.1.below hw (Nat.le_refl _), h.2⟩
theorem RunsM.alloc (h : RunsM w0 W g m) (o : Obj) : RunsM w0 (W.alloc o) g m := ⟨h.1.alloc o, h.2⟩
theorem RunsM.drewN (h : RunsM w0 W g m) (n : Nat) : RunsM w0 (W.drewN n) g m := ⟨h.1.drewN n, h.2⟩
theorem RunsM.drew (h : RunsM w0 W g m) : RunsM w0 W.drew g m := ⟨h.1.drew, h.2⟩
theorem RunsM.at_ {w' : World} {n : Nat} (hq : W.drewN n = w') (h : RunsM w0 W g m) : RunsM w0 w' g m := by subst hq; exact h.drewN n
theorem RunsM.lt (h : RunsM w0 W g m) : g < W.heap.size := h.1.keys.lt
theorem RunsM.ge (h : RunsM w0 W g m) : w0.heap.size ≤ g := h.2
theorem RunsM.grown (h : RunsM w0 W g m) {row : Option Nat} (hw : W.grownBy W1 row) (hne : some g ≠ row) : RunsM w0 W1 g m := ⟨h.1.grown hw hne, h.2⟩
theorem RunsM.fresh (h : RunsM w0 W g m) : ∀ k, W.heap.size ≤ k → k ≠ g := fun k hk e => by have := h.lt; omega
theorem RunsM.ne_ty (h : RunsM w0 W g m) {a : Nat} {t : TypeId} (hT : TyAt W a t) : g ≠ a := by
  rintro rfl
  obtain ⟨es, clock, hb⟩ := h.map_ty
  obtain ⟨cs, hc⟩ := hT
  rw [hb] at hc
  cases hc
theorem RunsM.farT (h : RunsM w0 W g m) {a o : Nat} {t : TypeId} (hT : TyAt W a t) (_h1 : t ≠ 9) (_h2 : t ≠ 100) (u : Value) : RunsM w0 (W.setCell ⟨a, o, none⟩ u) g m := ⟨h.1.set (h.ne_ty hT) u, h.2⟩
theorem RunsM.own_ne {α : Type} {d : Kd α} {e : Nat} {base : Nat} {ok : Nat → Prop} {v : Value} {xs : List α} (h : RunsM w0 W g m) (ho : d.R e W base ok v xs) (_ht : e ≠ 100) : some g ≠ v.ownBlock := fun e => by
  obtain ⟨_, _, _, q, _, cells, hc⟩ := (Kd.R_bound ho).1 g e.symm
  exact h.ne_ty ⟨cells, hc⟩ rfl
theorem RunsM.apart {α : Type} {d : Kd α} {e : Nat} {base : Nat} {ok : Nat → Prop} {v : Value} {xs : List α} (h : RunsM w0 W g m) (ho : d.R e W base ok v xs) (_ht : ∀ q, q ∈ e :: d.E → q ≠ 100) : d.R e W base (fun k => ok k ∧ k ≠ g) v xs :=
  Kd.R_mono (Kd.R_bound ho) (fun k hk => ⟨hk.1, fun e_ => by
    obtain ⟨_, _, _, q, _, cells, hc⟩ := hk
    exact h.ne_ty ⟨cells, hc⟩ e_.symm⟩)
def rlook (m : List (Int × Int)) (a b : Int) : Option (Int × Bool × List (Int × Int)) := if i64r a ∧ i64r b then some ((if (a, b) ∈ m then (m.idxOf (a, b) : Int) else 0), decide ((a, b) ∈ m), m) else none
def rput (m : List (Int × Int)) (a b c : Int) : Option (List (Int × Int)) := if i64r a ∧ i64r b ∧ (a, b) ∉ m ∧ c = (m.length : Int) ∧ m.length < 9223372036854775807 then some (m ++ [(a, b)]) else none
variable {ops : Array Oper} {rest : List Oper} {o : Oper} {a : Act} {Q : Exit → Act → World → Prop}
theorem runs_made (hg : o.guard = none) {N : Tmp} (hd : o.dst = some N) (hop : o.op = .makeMap 102 none) (hB : Below w0.heap.size w0 w)
    (h : ∀ g w1, RunsM w0 w1 g [] → Below w0.heap.size w0 w1 → Below w.heap.size w w1 → wpList Try.prog ops Q rest (a.put o.dst (.map (some g))) w1) : wpList Try.prog ops Q (o :: rest) a w :=
  map_event (k := 104) (e := 3) (ok := rok) (kl := rkl) hg hd _ hop (fun b w1 hb hm hw _ => h b w1 ⟨hm, by rw [hb]; exact hB.size⟩ (below_weaken hB hB.size hw) hw)
theorem runs_look (hg : o.guard = none) (mm x : Operand) (hop : o.op = Op.lookup 102 mm x true) (hm : a.eval mm = .map (some g)) (hM : RunsM w0 w g m) (hB : Below w0.heap.size w0 w) (a1 b1 n : Int) (bb : Bool) (hl : rlook m a1 b1 = some (n, bb, m2)) (hx : a.eval x = .agg #[.int .i64 a1, .int .i64 b1])
    (hK : ∀ w', RunsM w0 w' g m2 → Below w0.heap.size w0 w' → KeepBut w w' g none → wpList Try.prog ops Q rest (a.put o.dst (.tuple #[.int .i64 n, .bool bb])) w') : wpList Try.prog ops Q (o :: rest) a w := by
  unfold rlook at hl
  split at hl
  · rename_i hr
    simp only [Option.some.injEq, Prod.mk.injEq] at hl
    obtain ⟨rfl, rfl, rfl⟩ := hl
    exact place_event rkeys hg mm x 102 hop Try.underlying102 Try.underlying3 (by kernel_rfl) hm hM.1 (a1, b1) ⟨hr.1, hr.2⟩ hx (hK w hM hB (KeepBut.refl _ _ _))
  · cases hl
theorem runs_put {K : Act → World → Prop} {mm x v : Operand} (hw : Region.wanted o (yielded ops a.tmps) = true) (hN : o.dst = none) (hop : o.op = Op.mapUpdate 102 mm x v) (hm : a.eval mm = .map (some g)) (hM : RunsM w0 w g m) (hB : Below w0.heap.size w0 w) (a1 b1 c : Int) (hl : rput m a1 b1 c = some m2) (hx : a.eval x = .agg #[.int .i64 a1, .int .i64 b1]) (hv : a.eval v = .int .i64 c)
    (hK : ∀ w', RunsM w0 w' g m2 → Below w0.heap.size w0 w' → KeepBut w w' g none → K a w') : if Region.wanted o (yielded ops a.tmps) = true then Oper.wp Try.prog o a w K Q else K (a.put none undef) w := by
  unfold rput at hl
  split at hl
  · rename_i hr
    simp only [Option.some.injEq] at hl
    subst hl
    obtain ⟨h1, h2, h3, rfl, h5⟩ := hr
    obtain ⟨⟨D, k1, k2⟩, k3⟩ := hM
    have hwc : (Lit.int .i64 (m.length : Int)).wf = true := i64r_wf ⟨by omega, by omega⟩
    obtain ⟨w', q1, q2, q3⟩ := k1.update rkeys.K Try.underlying102 (by simpa [maxLen] using h5) (rkeys.key (a1, b1) ⟨h1, h2⟩) (plainElem_int (H := Unit) Try.underlying3 hwc)
    refine skip_ (w1 := w') hw hN ?_ (hK w' ⟨⟨_, by simpa using q2, fun z hz => ?_⟩, k3⟩ (pw_below_grown hB (some g) hB.size q3 (fun k e => by injection e with e; omega)) ⟨q3.size, fun i hi hg _ => q3.block i hi (by simpa using hg)⟩)
    · unfold execOp
      simp only [hop, hm, hx, hv]
      have q1' : (Instr.mapUpdate 102 (.map (some g)) (.agg #[.int .i64 a1, .int .i64 b1]) (.int .i64 (m.length : Int))).run Try.prog w = .ok () w' := q1
      simp [q1', Result.andThen]
    · by_cases hzy : z = (a1, b1)
      · subst hzy
        rw [has_put_same k1.isMap (rkeys.K.key (rkeys.key _ hz)), atKey_put_same k1.isMap (rkeys.K.key (rkeys.key _ hz))]
        simp [List.idxOf_append, h3]
      · rw [has_put_other (rkeys.ne hz ⟨h1, h2⟩ hzy), atKey_put_other (rkeys.ne hz ⟨h1, h2⟩ hzy), (k2 z hz).1, (k2 z hz).2]
        by_cases hm' : z ∈ m
        · simp [hzy, hm', List.idxOf_append]
        · simp [hzy, hm']
  · cases hl
end
end Go.Proofs.YtjfklfmfeghjnabAid
