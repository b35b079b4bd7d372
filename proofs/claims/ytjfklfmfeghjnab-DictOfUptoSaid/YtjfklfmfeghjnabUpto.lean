/- What a row's parameter holds, where all arguments together are of little bulk: opened by its kind. -/
import Derived.JoinedCond
import Derived.Test.YtjfklfmfeghjnabRows
import Derived.Test.YtjfklfmfeghjnabOpen
namespace Go.Proofs.YtjfklfmfeghjnabUpto
open Go Go.RowKit Go.ChangeShapes Go.WideShapes Go.ChangeAt Go.Proofs.YtjfklfmfeghjnabW.PrintWords Go.Proofs.YtjfklfmfeghjnabOpen Go.Proofs.Ytjfklfmfeghjnab.Rows


structure LaidU {α : Type} (P : Program) (t : TypeId) (d : Kd α) (g : α → Prop) (m : α → Nat) : Prop where
  sz : P.cellsOf t = d.sz
  opens : ∀ {H : Type} {enc : TypeId × Value → H} {w : World} {base : Nat} {sp : Nat → Bool} {hd : Bool} {fuel : Nat} {cs : List Value} {x : DataW H × List MemPlace},
    DataW.trod enc P w base sp hd fuel t cs = some x → uptoBulk x.1 ≤ 1048576 → ∃ a, d.K w a cs ∧ g a ∧ m a ≤ uptoBulk x.1

variable {P : Program}

theorem bulk_pos {H : Type} (d : DataW H) : 1 ≤ uptoBulk d := by
  cases d <;> first | (simp [uptoBulk]; done) | skip
  rename_i l
  cases l <;> simp [uptoBulk]

theorem laid_int {t : TypeId} {k : IntKind} (ht : P.underlying t = some (.int k)) (hs : P.cellsOf t = 1) : LaidU P t (Kd.int k) (intOk k) oneBulk where
  sz := hs
  opens := by
    intro H enc w base sp hd fuel cs x h _
    have hp := bulk_pos x.1
    cases fuel with
    | zero => simp [DataW.trod] at h
    | succ n =>
      unfold DataW.trod at h
      rw [ht] at h
      split at h <;> (try (simp_all; done))
      rename_i k0 k1 m h1
      simp only [Option.some.injEq, TypeDesc.int.injEq] at h1
      subst h1
      split at h
      · rename_i hc
        obtain ⟨rfl, hc⟩ := hc
        exact ⟨m, rfl, hc, hp⟩
      · cases h

theorem laid_bool {t : TypeId} (ht : P.underlying t = some .bool) (hs : P.cellsOf t = 1) : LaidU P t Kd.bool boolOk oneBulk where
  sz := hs
  opens := by
    intro H enc w base sp hd fuel cs x h _
    have hp := bulk_pos x.1
    cases fuel with
    | zero => simp [DataW.trod] at h
    | succ n =>
      unfold DataW.trod at h
      rw [ht] at h
      split at h <;> (try (simp_all; done))
      rename_i b h1
      exact ⟨b, rfl, trivial, hp⟩

theorem laid_string {t : TypeId} (ht : P.underlying t = some .string) (hs : P.cellsOf t = 1) : LaidU P t Kd.string strOk strBulk where
  sz := hs
  opens := by
    intro H enc w base sp hd fuel cs x h hw
    cases fuel with
    | zero => simp [DataW.trod] at h
    | succ n =>
      unfold DataW.trod at h
      rw [ht] at h
      split at h <;> (try (simp_all; done))
      rename_i s h1
      split at h
      · simp only [Option.some.injEq] at h
        subst h
        have hb : uptoBulk (H := H) (.lit (.string s.data.toList)) = s.size + 1 := by simp only [uptoBulk, Array.length_toList]; rfl
        simp only [hb] at hw ⊢
        exact ⟨s, rfl, by unfold strOk; omega, Nat.le_refl _⟩
      · cases h

theorem laid_iso {α β : Type} {t : TypeId} {d : Kd α} {g : α → Prop} {n : α → Nat} (f : β → α) (m : α → β) (hm : ∀ a, f (m a) = a) (L : LaidU P t d g n) : LaidU P t (Kd.iso d f) (fun b => g (f b)) (fun b => n (f b)) where
  sz := L.sz
  opens := by
    intro H enc w base sp hd fuel cs x h hw
    obtain ⟨a, ha, hg, hn⟩ := L.opens h hw
    refine ⟨m a, ?_, by rw [hm]; exact hg, by rw [hm]; exact hn⟩
    show d.K w (f (m a)) cs
    rw [hm]
    exact ha

/-- Fields in line, from a place on. -/
def LaidF {α : Type} (P : Program) (fs : List Field) (o : Nat) (d : Kd α) (g : α → Prop) (m : α → Nat) : Prop :=
  ∀ {H : Type} {enc : TypeId × Value → H} {w : World} {base : Nat} {sp : Nat → Bool} {hd : Bool} {fuel : Nat} {cs : List Value} {xs : List (DataW H × List MemPlace)},
    (fs.mapM fun f => DataW.trod enc P w base sp hd fuel f.type ((cs.drop f.offset).take (P.cellsOf f.type))) = some xs → cs.length = o + d.sz →
    uptoBulkAll (xs.map (·.1)) ≤ 1048576 → ∃ a, d.K w a (cs.drop o) ∧ g a ∧ m a ≤ uptoBulkAll (xs.map (·.1))

theorem laidF_one {α : Type} {f : Field} {o : Nat} {d : Kd α} {g : α → Prop} {m : α → Nat} (ho : f.offset = o) (L : LaidU P f.type d g m) : LaidF P [f] o d g m := by
  intro H enc w base sp hd fuel cs xs h hl hw
  rw [List.mapM_cons] at h
  cases hx : DataW.trod enc P w base sp hd fuel f.type ((cs.drop f.offset).take (P.cellsOf f.type)) with
  | none => simp [hx] at h
  | some x =>
    simp [hx] at h
    subst h
    have he : uptoBulkAll (List.map (fun x => x.1) [x]) = uptoBulk x.1 := by simp [uptoBulkAll]
    rw [he] at hw ⊢
    obtain ⟨a, ha, hg, hm⟩ := L.opens hx hw
    refine ⟨a, ?_, hg, hm⟩
    rw [ho, L.sz, List.take_of_length_le (by rw [List.length_drop]; omega)] at ha
    exact ha

theorem laidF_cons {α β : Type} {f : Field} {fs : List Field} {o : Nat} {d : Kd α} {e : Kd β} {g : α → Prop} {h : β → Prop} {m : α → Nat} {n : β → Nat} (ho : f.offset = o) (L : LaidU P f.type d g m) (R : LaidF P fs (o + d.sz) e h n) : LaidF P (f :: fs) o (Kd.pair d e) (pairOk g h) (pairBulk m n) := by
  intro H enc w base sp hd fuel cs xs hm hl hw
  have hl : cs.length = o + (d.sz + e.sz) := hl
  rw [List.mapM_cons] at hm
  cases hx : DataW.trod enc P w base sp hd fuel f.type ((cs.drop f.offset).take (P.cellsOf f.type)) with
  | none => simp [hx] at hm
  | some x =>
    cases hy : (fs.mapM fun f => DataW.trod enc P w base sp hd fuel f.type ((cs.drop f.offset).take (P.cellsOf f.type))) with
    | none => simp [hx, hy] at hm
    | some ys =>
      simp [hx, hy] at hm
      subst hm
      have he : uptoBulkAll (List.map (fun x => x.1) (x :: ys)) = uptoBulk x.1 + uptoBulkAll (ys.map (·.1)) := by simp [uptoBulkAll]
      rw [he] at hw ⊢
      obtain ⟨a, ha, hg, hma⟩ := L.opens hx (by omega)
      obtain ⟨b, hb, hh, hnb⟩ := R hy (by omega) (by omega)
      rw [ho, L.sz] at ha
      refine ⟨(a, b), ⟨_, _, ?_, ha, hb⟩, ⟨hg, hh⟩, Nat.add_le_add hma hnb⟩
      rw [← List.drop_drop, List.take_append_drop]

theorem laid_struct {α : Type} {t : TypeId} {fs : Array Field} {d : Kd α} {g : α → Prop} {m : α → Nat} (ht : P.underlying t = some (.struct fs)) (hs : P.cellsOf t = d.sz) (L : LaidF P fs.toList 0 d g m) : LaidU P t d g m where
  sz := hs
  opens := by
    intro H enc w base sp hd fuel cs x h hw
    cases fuel with
    | zero => simp [DataW.trod] at h
    | succ n =>
      unfold DataW.trod at h
      rw [ht] at h
      simp only at h
      split at h
      · rename_i hl
        cases hy : (fs.toList.mapM fun f => DataW.trod enc P w base sp hd n f.type ((cs.drop f.offset).take (P.cellsOf f.type))) with
        | none => rw [hy] at h; simp at h
        | some ys =>
          rw [hy] at h
          simp only [Option.map_some, Option.some.injEq] at h
          subst h
          have he : uptoBulk (DataW.agg (ys.map (·.1))) = uptoBulkAll (ys.map (·.1)) + 1 := by simp [uptoBulk]
          simp only [he] at hw ⊢
          obtain ⟨a, ha, hg, hm⟩ := L hy (by omega) (by omega)
          exact ⟨a, by simpa using ha, hg, by omega⟩
      · simp at h

theorem bulkAll_sum {H : Type} (ds : List (DataW H)) : uptoBulkAll ds = (ds.map uptoBulk).sum := by
  induction ds with
  | nil => simp [uptoBulkAll]
  | cons x r ih => simp [uptoBulkAll, ih]

theorem sum_le_get {α β : Type} {m : α → Nat} {n : β → Nat} {l : List α} {r : List β} (hl : l.length = r.length) (h : ∀ (i : Nat) a b, l[i]? = some a → r[i]? = some b → m a ≤ n b) : (l.map m).sum ≤ (r.map n).sum := by
  induction l generalizing r with
  | nil => simp
  | cons x l ih =>
    cases r with
    | nil => simp at hl
    | cons y r =>
      simp only [List.map_cons, List.sum_cons]
      exact Nat.add_le_add (h 0 x y rfl rfl) (ih (by simpa using hl) (fun i a b ha hb => h (i + 1) a b (by simpa using ha) (by simpa using hb)))

theorem mem_sum_le {H : Type} {ds : List (DataW H)} {i : Nat} {x : DataW H} (h : ds[i]? = some x) : uptoBulk x ≤ uptoBulkAll ds := by
  induction ds generalizing i with
  | nil => simp at h
  | cons y ys ih =>
    simp only [uptoBulkAll]
    cases i with
    | zero => simp at h; subst h; omega
    | succ j => have := ih (i := j) (by simpa using h); omega

theorem length_le_bulk {H : Type} (ds : List (DataW H)) : ds.length ≤ uptoBulkAll ds := by
  induction ds with
  | nil => simp
  | cons x r ih =>
    have := bulk_pos x
    simp only [uptoBulkAll, List.length_cons]
    omega

/-- A slice's row. -/
theorem open_rows {α : Type} {t e : TypeId} {d : Kd α} {g : α → Prop} {m : α → Nat} {B : Nat} (ht : P.underlying t = some (.slice e)) (hB : B ≤ 134217000) (L : LaidU P e d g m)
    {H : Type} {enc : TypeId × Value → H} {w : World} {base : Nat} {sp : Nat → Bool} {hd : Bool} {fuel : Nat} {cs : List Value} {x : DataW H × List MemPlace}
    (h : DataW.trod enc P w base sp hd fuel t cs = some x) (hw : uptoBulk x.1 ≤ 1048576) :
    ∃ (A : Option Addr) (c : Nat) (l : List α), cs = [.slice A l.length c] ∧ l.length ≤ c ∧ d.C w A l.length l ∧ sliceOk B g l ∧ sliceBulk m l ≤ uptoBulk x.1 := by
  cases fuel with
  | zero => simp [DataW.trod] at h
  | succ n =>
    unfold DataW.trod at h
    rw [ht] at h
    split at h <;> (try (simp_all; done))
    · rename_i h1 _
      simp only [Option.some.injEq] at h
      subst h
      exact ⟨none, 0, [], rfl, Nat.le_refl _, ⟨rfl, Nat.zero_le _, fun h => absurd h (by simp)⟩, ⟨Nat.zero_le _, by simp, fun x hx => by cases hx⟩, by simp [sliceBulk, uptoBulk]⟩
    · rename_i e0 A len cap h1
      simp only [Option.some.injEq, TypeDesc.slice.injEq] at h1
      subst h1
      simp only at h
      split at h
      · rename_i hc
        obtain ⟨hb, hlc, hcm⟩ := hc
        cases hy : (List.range len).mapM (fun i => (w.cells? base (A.add (i * P.cellsOf e)) (P.cellsOf e)).bind (DataW.trod enc P w base sp hd n e)) with
        | none => rw [hy] at h; simp at h
        | some ys =>
          rw [hy] at h
          simp only [Option.bind_some, Option.map_eq_some_iff] at h
          obtain ⟨zs, _, hx⟩ := h
          subst hx
          have hys : ys.length = len := by have := mapM_some_length hy; simpa using this
          have he : uptoBulk (DataW.slice (ys.map (·.1)) (zs.map (·.1))) = uptoBulkAll (ys.map (·.1)) + uptoBulkAll (zs.map (·.1)) + 1 := by simp [uptoBulk]
          simp only [he] at hw ⊢
          have hlb := length_le_bulk (ys.map (·.1))
          rw [List.length_map, hys] at hlb
          obtain ⟨l, hl, hf⟩ := exists_list len (fun i (cs : List Value) a => d.K w a cs ∧ cs.length = d.sz ∧ g a ∧ (∀ j u, cs[j]? = some u → w.cell? (A.add (i * d.sz + j)) = some u) ∧ ∀ y, ys[i]? = some y → m a ≤ uptoBulk y.1) (fun i => (w.cells? base (A.add (i * P.cellsOf e)) (P.cellsOf e)).getD []) (fun i hi => by
            obtain ⟨y, hy1, hy2⟩ := mapM_all hy i i (by simp [hi])
            cases hcs : w.cells? base (A.add (i * P.cellsOf e)) (P.cellsOf e) with
            | none => rw [hcs] at hy2; simp at hy2
            | some cs =>
              rw [hcs] at hy2
              simp only [Option.bind_some] at hy2
              have hyb : uptoBulk y.1 ≤ uptoBulkAll (ys.map (·.1)) := mem_sum_le (i := i) (by rw [List.getElem?_map, hy1]; rfl)
              obtain ⟨a, ha, hg, hm⟩ := L.opens hy2 (by omega)
              obtain ⟨_, hcl, hcell⟩ := World.cells?_some hcs
              refine ⟨a, ha, by rw [Option.getD_some, hcl, L.sz], hg, fun j u hu => ?_, fun y' hy' => ?_⟩
              · rw [Option.getD_some] at hu
                have hj : j < P.cellsOf e := by
                  rw [← hcl]
                  rcases Nat.lt_or_ge j cs.length with hlt | hge
                  · exact hlt
                  · rw [List.getElem?_eq_none hge] at hu; cases hu
                have := hcell j hj
                rw [hu, L.sz] at this
                rw [← this]
                rw [Addr.add_add]
              · rw [hy1] at hy'
                cases hy'
                exact hm)
          refine ⟨some A, cap, l, by rw [hl], by omega, ⟨rfl, ?_, fun _ => ⟨A, rfl, fun j p hj => ?_⟩⟩, ⟨?_, ?_, ?_⟩, ?_⟩
          · have : maxLen = 9223372036854775807 := rfl
            omega
          · obtain ⟨h1, h2, _, h3, _⟩ := hf j p hj
            exact ⟨_, h2, h1, h3⟩
          · omega
          · rw [hl]
            have h1 : len * B ≤ 1048576 * 134217000 := Nat.mul_le_mul (by omega) hB
            omega
          · intro x hx
            obtain ⟨i, hi⟩ := List.getElem?_of_mem hx
            exact (hf i x hi).2.2.1
          · have hs : (l.map m).sum ≤ (ys.map fun y => uptoBulk y.1).sum := sum_le_get (by rw [hl, hys]) (fun i a b ha hb => (hf i a ha).2.2.2.2 b hb)
            have h2 : uptoBulkAll (ys.map (·.1)) = (ys.map fun y => uptoBulk y.1).sum := by rw [bulkAll_sum, List.map_map]; rfl
            unfold sliceBulk
            omega
      · simp at h

theorem laid_slice {α : Type} {t e : TypeId} {d : Kd α} {g : α → Prop} {m : α → Nat} {B : Nat} (q : Nat) (ht : P.underlying t = some (.slice e)) (hs : P.cellsOf t = 1) (hB : B ≤ 134217000) (L : LaidU P e d g m) : LaidU P t (Kd.slice q d) (sliceOk B g) (sliceBulk m) where
  sz := hs
  opens := by
    intro H enc w base sp hd fuel cs x h hw
    obtain ⟨A, c, l, rfl, hl, hc, hg, hm⟩ := open_rows ht hB L h hw
    exact ⟨l, ⟨A, c, rfl, hl, hc⟩, hg, hm⟩

/-- A parameter that is a slice. -/
theorem open_param {α : Type} {t e : TypeId} {d : Kd α} {g : α → Prop} {m : α → Nat} {B : Nat} (ht : P.underlying t = some (.slice e)) (hB : B ≤ 134217000) (L : LaidU P e d g m)
    {H : Type} {enc : TypeId × Value → H} {w : World} {base : Nat} {sp : Nat → Bool} {hd : Bool} {v : Value} {x : DataW H} {ps : List MemPlace}
    (hx : uptoBulk x ≤ 1048576) (h : DataW.Trod enc P w base sp hd t v x ps) (A : Option Addr) (len cap : Nat) (hv : v = .slice A len cap) :
    ∃ l : List α, len = l.length ∧ l.length ≤ cap ∧ d.C w A l.length l ∧ sliceOk B g l ∧ sliceBulk m l ≤ uptoBulk x := by
  subst hv
  obtain ⟨fuel, hf⟩ := h
  obtain ⟨A', c, l, hcs, hl, hc, hg, hm⟩ := open_rows ht hB L hf hx
  simp [Value.cells] at hcs
  obtain ⟨rfl, rfl, rfl⟩ := hcs
  exact ⟨l, rfl, hl, hc, hg, hm⟩

end Go.Proofs.YtjfklfmfeghjnabUpto
