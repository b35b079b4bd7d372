/- What a row's parameter holds, opened by its kind: whole numbers, bools, texts, structs of such, and slices of them, one in another. -/
import Derived.WalkKit
import Derived.ProofKit
import Derived.OpenShut
import Derived.ShutString
import Derived.ChangeOld
import Derived.Below
import Derived.SizedLaws
import Derived.DataReads
import Derived.DataElems
import Derived.Test.YtmmfakdncjeoeaaWWords
namespace Go.Proofs.YtmmfakdncjeoeaaOpen
open Go Go.RowKit Go.ChangeShapes Go.WideShapes Go.ChangeAt Go.Proofs.YtmmfakdncjeoeaaW.PrintWords

def intOk (k : IntKind) (n : Int) : Prop := (Lit.int k n).wf = true
def strOk (s : ByteArray) : Prop := s.size ≤ 140737488351232
def boolOk (_ : Bool) : Prop := True
def pairOk {α β : Type} (g : α → Prop) (h : β → Prop) (x : α × β) : Prop := g x.1 ∧ h x.2
def sliceOk {α : Type} (B : Nat) (g : α → Prop) (l : List α) : Prop := l.length ≤ maxLen ∧ l.length * B ≤ 140737488351232 ∧ ∀ x ∈ l, g x

def sliceBulk {α : Type} (m : α → Nat) (l : List α) : Nat := (l.map m).sum + 1
def oneBulk {α : Type} (_ : α) : Nat := 1
def strBulk (s : ByteArray) : Nat := s.size + 1
def pairBulk {α β : Type} (m : α → Nat) (n : β → Nat) (x : α × β) : Nat := m x.1 + n x.2
theorem sliceBulk_one {α : Type} (l : List α) : sliceBulk oneBulk l = l.length + 1 := by
  unfold sliceBulk oneBulk
  congr 1
  induction l with
  | nil => rfl
  | cons x r ih => rw [List.map_cons, List.sum_cons, ih, List.length_cons]; omega

/-- A kind tells what cells of a type hold, if these may be walked. -/
structure Laid {α : Type} (P : Program) (t : TypeId) (d : Kd α) (g : α → Prop) : Prop where
  sz : P.cellsOf t = d.sz
  opens : ∀ {H : Type} {enc : TypeId × Value → H} {w : World} {base : Nat} {sp : Nat → Bool} {hd : Bool} {fuel : Nat} {cs : List Value} {x : DataW H × List MemPlace},
    DataW.trod enc P w base sp hd fuel t cs = some x → (∀ n ∈ x.1.weights P t, n ≤ reachBytes) → ∃ a, d.K w a cs ∧ g a

variable {P : Program}

theorem laid_int {t : TypeId} {k : IntKind} (ht : P.underlying t = some (.int k)) (hs : P.cellsOf t = 1) : Laid P t (Kd.int k) (intOk k) where
  sz := hs
  opens := by
    intro H enc w base sp hd fuel cs x h _
    cases fuel with
    | zero => simp [DataW.trod] at h
    | succ n =>
      unfold DataW.trod at h
      rw [ht] at h
      split at h <;> (try (simp_all; done))
      rename_i k0 k1 m h1
      simp only [Option.some.injEq, TypeDesc.int.injEq] at h1
      subst h1
      split at h
      · rename_i hc
        obtain ⟨rfl, hc⟩ := hc
        exact ⟨m, rfl, hc⟩
      · cases h

theorem laid_bool {t : TypeId} (ht : P.underlying t = some .bool) (hs : P.cellsOf t = 1) : Laid P t Kd.bool boolOk where
  sz := hs
  opens := by
    intro H enc w base sp hd fuel cs x h _
    cases fuel with
    | zero => simp [DataW.trod] at h
    | succ n =>
      unfold DataW.trod at h
      rw [ht] at h
      split at h <;> (try (simp_all; done))
      rename_i b h1
      exact ⟨b, rfl, trivial⟩

theorem laid_string {t : TypeId} (ht : P.underlying t = some .string) (hs : P.cellsOf t = 1) : Laid P t Kd.string strOk where
  sz := hs
  opens := by
    intro H enc w base sp hd fuel cs x h hw
    cases fuel with
    | zero => simp [DataW.trod] at h
    | succ n =>
      unfold DataW.trod at h
      rw [ht] at h
      split at h <;> (try (simp_all; done))
      rename_i s h1
      split at h
      · simp only [Option.some.injEq] at h
        subst h
        refine ⟨s, rfl, ?_⟩
        have := hw s.data.toList.length (by simp [DataW.weights])
        rw [Array.length_toList] at this
        exact this
      · cases h

theorem laid_iso {α β : Type} {t : TypeId} {d : Kd α} {g : α → Prop} (f : β → α) (m : α → β) (hm : ∀ a, f (m a) = a) (L : Laid P t d g) : Laid P t (Kd.iso d f) (fun b => g (f b)) where
  sz := L.sz
  opens := by
    intro H enc w base sp hd fuel cs x h hw
    obtain ⟨a, ha, hg⟩ := L.opens h hw
    refine ⟨m a, ?_, by rw [hm]; exact hg⟩
    show d.K w (f (m a)) cs
    rw [hm]
    exact ha

/-- Fields in line, from a place on. -/
def LaidF {α : Type} (P : Program) (fs : List Field) (o : Nat) (d : Kd α) (g : α → Prop) : Prop :=
  ∀ {H : Type} {enc : TypeId × Value → H} {w : World} {base : Nat} {sp : Nat → Bool} {hd : Bool} {fuel : Nat} {cs : List Value} {xs : List (DataW H × List MemPlace)},
    (fs.mapM fun f => DataW.trod enc P w base sp hd fuel f.type ((cs.drop f.offset).take (P.cellsOf f.type))) = some xs → cs.length = o + d.sz →
    (∀ n ∈ DataW.weightsEach P (fs.map (·.type)) (xs.map (·.1)), n ≤ reachBytes) → ∃ a, d.K w a (cs.drop o) ∧ g a

theorem laidF_one {α : Type} {f : Field} {o : Nat} {d : Kd α} {g : α → Prop} (ho : f.offset = o) (L : Laid P f.type d g) : LaidF P [f] o d g := by
  intro H enc w base sp hd fuel cs xs h hl hw
  rw [List.mapM_cons] at h
  cases hx : DataW.trod enc P w base sp hd fuel f.type ((cs.drop f.offset).take (P.cellsOf f.type)) with
  | none => simp [hx] at h
  | some x =>
    simp [hx] at h
    subst h
    obtain ⟨a, ha, hg⟩ := L.opens hx (fun n hn => hw n (by simp [DataW.weightsEach]; exact hn))
    refine ⟨a, ?_, hg⟩
    rw [ho, L.sz, List.take_of_length_le (by rw [List.length_drop]; omega)] at ha
    exact ha

theorem laidF_cons {α β : Type} {f : Field} {fs : List Field} {o : Nat} {d : Kd α} {e : Kd β} {g : α → Prop} {h : β → Prop} (ho : f.offset = o) (L : Laid P f.type d g) (R : LaidF P fs (o + d.sz) e h) : LaidF P (f :: fs) o (Kd.pair d e) (pairOk g h) := by
  intro H enc w base sp hd fuel cs xs hm hl hw
  have hl : cs.length = o + (d.sz + e.sz) := hl
  rw [List.mapM_cons] at hm
  cases hx : DataW.trod enc P w base sp hd fuel f.type ((cs.drop f.offset).take (P.cellsOf f.type)) with
  | none => simp [hx] at hm
  | some x =>
    cases hy : (fs.mapM fun f => DataW.trod enc P w base sp hd fuel f.type ((cs.drop f.offset).take (P.cellsOf f.type))) with
    | none => simp [hx, hy] at hm
    | some ys =>
      simp [hx, hy] at hm
      subst hm
      obtain ⟨a, ha, hg⟩ := L.opens hx (fun n hn => hw n (by simp [DataW.weightsEach]; exact .inl hn))
      obtain ⟨b, hb, hh⟩ := R hy (by omega) (fun n hn => hw n (by simp only [List.map_cons, DataW.weightsEach]; exact List.mem_append_right _ hn))
      rw [ho, L.sz] at ha
      refine ⟨(a, b), ⟨_, _, ?_, ha, hb⟩, hg, hh⟩
      rw [← List.drop_drop, List.take_append_drop]

theorem laid_struct {α : Type} {t : TypeId} {fs : Array Field} {d : Kd α} {g : α → Prop} (ht : P.underlying t = some (.struct fs)) (hs : P.cellsOf t = d.sz) (L : LaidF P fs.toList 0 d g) : Laid P t d g where
  sz := hs
  opens := by
    intro H enc w base sp hd fuel cs x h hw
    cases fuel with
    | zero => simp [DataW.trod] at h
    | succ n =>
      unfold DataW.trod at h
      rw [ht] at h
      simp only at h
      split at h
      · rename_i hl
        cases hy : (fs.toList.mapM fun f => DataW.trod enc P w base sp hd n f.type ((cs.drop f.offset).take (P.cellsOf f.type))) with
        | none => rw [hy] at h; simp at h
        | some ys =>
          rw [hy] at h
          simp only [Option.map_some, Option.some.injEq] at h
          subst h
          obtain ⟨a, ha, hg⟩ := L hy (by omega) (fun n hn => hw n (by simp only [DataW.weights, ht]; exact hn))
          exact ⟨a, by simpa using ha, hg⟩
      · simp at h

theorem mapM_all {α β : Type} {f : α → Option β} {l : List α} {r : List β} (h : l.mapM f = some r) (i : Nat) (x : α) (hx : l[i]? = some x) : ∃ y, r[i]? = some y ∧ f x = some y := by
  have h1 := mapM_some_get h i x hx
  have h2 := mapM_some_length h
  have hi : i < l.length := by
    rcases Nat.lt_or_ge i l.length with hlt | hge
    · exact hlt
    · rw [List.getElem?_eq_none hge] at hx; cases hx
  refine ⟨r[i]'(by omega), List.getElem?_eq_getElem (by omega), ?_⟩
  rw [h1, List.getElem?_eq_getElem (by omega)]

theorem weightsAll_mem {H : Type} {e : TypeId} {ds : List (DataW H)} {i : Nat} {x : DataW H} (h : ds[i]? = some x) (n : Nat) (hn : n ∈ x.weights P e) : n ∈ DataW.weightsAll P e ds := by
  induction ds generalizing i with
  | nil => simp at h
  | cons y ys ih =>
    cases i with
    | zero =>
      simp at h
      subst h
      simp only [DataW.weightsAll]
      exact List.mem_append_left _ hn
    | succ j =>
      simp at h
      simp only [DataW.weightsAll]
      exact List.mem_append_right _ (ih h)

theorem exists_list {α β : Type} (n : Nat) (f : Nat → β → α → Prop) (g : Nat → β) (h : ∀ i, i < n → ∃ a, f i (g i) a) : ∃ l : List α, l.length = n ∧ ∀ i a, l[i]? = some a → f i (g i) a := by
  induction n with
  | zero => exact ⟨[], rfl, fun i a h => by simp at h⟩
  | succ n ih =>
    obtain ⟨l, hl, hf⟩ := ih (fun i hi => h i (by omega))
    obtain ⟨a, ha⟩ := h n (by omega)
    refine ⟨l ++ [a], by rw [List.length_append, hl]; rfl, fun i b hb => ?_⟩
    rcases Nat.lt_trichotomy i n with h1 | h1 | h1
    · rw [List.getElem?_append_left (by omega)] at hb
      exact hf i b hb
    · subst h1
      rw [List.getElem?_append_right (by omega), hl] at hb
      simp at hb
      subst hb
      exact ha
    · rw [List.getElem?_eq_none (by rw [List.length_append, hl]; simp only [List.length_cons, List.length_nil]; omega)] at hb
      cases hb

/-- A slices row. -/
theorem open_rows {α : Type} {t e : TypeId} {d : Kd α} {g : α → Prop} {B : Nat} (ht : P.underlying t = some (.slice e)) (hB : P.bytesOf e = B) (L : Laid P e d g)
    {H : Type} {enc : TypeId × Value → H} {w : World} {base : Nat} {sp : Nat → Bool} {hd : Bool} {fuel : Nat} {cs : List Value} {x : DataW H × List MemPlace}
    (h : DataW.trod enc P w base sp hd fuel t cs = some x) (hw : ∀ n ∈ x.1.weights P t, n ≤ reachBytes) :
    ∃ (A : Option Addr) (c : Nat) (l : List α), cs = [.slice A l.length c] ∧ l.length ≤ c ∧ d.C w A l.length l ∧ sliceOk B g l := by
  cases fuel with
  | zero => simp [DataW.trod] at h
  | succ n =>
    unfold DataW.trod at h
    rw [ht] at h
    split at h <;> (try (simp_all; done))
    · rename_i h1 _
      exact ⟨none, 0, [], rfl, Nat.le_refl _, ⟨rfl, Nat.zero_le _, fun h => absurd h (by simp)⟩, Nat.zero_le _, by simp, fun x hx => by cases hx⟩
    · rename_i e0 A len cap h1
      simp only [Option.some.injEq, TypeDesc.slice.injEq] at h1
      subst h1
      simp only at h
      split at h
      · rename_i hc
        obtain ⟨hb, hlc, hcm⟩ := hc
        cases hy : (List.range len).mapM (fun i => (w.cells? base (A.add (i * P.cellsOf e)) (P.cellsOf e)).bind (DataW.trod enc P w base sp hd n e)) with
        | none => rw [hy] at h; simp at h
        | some ys =>
          rw [hy] at h
          simp only [Option.bind_some, Option.map_eq_some_iff] at h
          obtain ⟨zs, _, hx⟩ := h
          subst hx
          have hys : ys.length = len := by have := mapM_some_length hy; simpa using this
          have hw2 : ((ys.map (·.1)).length + (zs.map (·.1)).length) * P.bytesOf e ≤ reachBytes := hw _ (by simp [DataW.weights, ht])
          rw [List.length_map, hys, hB] at hw2
          obtain ⟨l, hl, hf⟩ := exists_list len (fun i (cs : List Value) a => d.K w a cs ∧ cs.length = d.sz ∧ g a ∧ ∀ j u, cs[j]? = some u → w.cell? (A.add (i * d.sz + j)) = some u) (fun i => (w.cells? base (A.add (i * P.cellsOf e)) (P.cellsOf e)).getD []) (fun i hi => by
            obtain ⟨y, hy1, hy2⟩ := mapM_all hy i i (by simp [hi])
            cases hcs : w.cells? base (A.add (i * P.cellsOf e)) (P.cellsOf e) with
            | none => rw [hcs] at hy2; simp at hy2
            | some cs =>
              rw [hcs] at hy2
              simp only [Option.bind_some] at hy2
              obtain ⟨a, ha, hg⟩ := L.opens hy2 (fun m hm => hw m (by
                simp only [DataW.weights, ht]
                refine List.mem_cons_of_mem _ (List.mem_append_left _ (weightsAll_mem (i := i) ?_ m hm))
                rw [List.getElem?_map, hy1]
                rfl))
              obtain ⟨_, hcl, hcell⟩ := World.cells?_some hcs
              refine ⟨a, ha, by rw [Option.getD_some, hcl, L.sz], hg, fun j u hu => ?_⟩
              rw [Option.getD_some] at hu
              have hj : j < P.cellsOf e := by
                rw [← hcl]
                rcases Nat.lt_or_ge j cs.length with hlt | hge
                · exact hlt
                · rw [List.getElem?_eq_none hge] at hu; cases hu
              have := hcell j hj
              rw [hu, L.sz] at this
              rw [← this]
              rw [Addr.add_add])
          refine ⟨some A, cap, l, by rw [hl], by omega, ⟨rfl, ?_, fun _ => ⟨A, rfl, fun j p hj => ?_⟩⟩, ?_, ?_, ?_⟩
          · have : maxLen = 9223372036854775807 := rfl
            omega
          · obtain ⟨h1, h2, _, h3⟩ := hf j p hj
            exact ⟨_, h2, h1, h3⟩
          · omega
          · rw [hl]
            have : reachBytes = 140737488351232 := by decide
            have := Nat.le_trans (Nat.mul_le_mul_right B (Nat.le_add_right len (zs.map (·.1)).length)) hw2
            omega
          · intro x hx
            obtain ⟨i, hi⟩ := List.getElem?_of_mem hx
            exact (hf i x hi).2.2.1
      · simp at h

theorem laid_slice {α : Type} {t e : TypeId} {d : Kd α} {g : α → Prop} {B : Nat} (q : Nat) (ht : P.underlying t = some (.slice e)) (hs : P.cellsOf t = 1) (hB : P.bytesOf e = B) (L : Laid P e d g) : Laid P t (Kd.slice q d) (sliceOk B g) where
  sz := hs
  opens := by
    intro H enc w base sp hd fuel cs x h hw
    obtain ⟨A, c, l, rfl, hl, hc, hg⟩ := open_rows ht hB L h hw
    exact ⟨l, ⟨A, c, rfl, hl, hc⟩, hg⟩

/-- A parameter that is a slice. -/
theorem open_param {α : Type} {t e : TypeId} {d : Kd α} {g : α → Prop} {B : Nat} (ht : P.underlying t = some (.slice e)) (hB : P.bytesOf e = B) (L : Laid P e d g)
    {H : Type} {enc : TypeId × Value → H} {w : World} {base : Nat} {sp : Nat → Bool} {hd : Bool} {v : Value} {x : DataW H} {ps : List MemPlace} {ts : List TypeId} {ds : List (DataW H)} {j : Nat}
    (hsz : (DataW.weightsEach P ts ds).all (· ≤ reachBytes) = true) (htj : ts[j]? = some t) (hdj : ds[j]? = some x) (h : DataW.Trod enc P w base sp hd t v x ps) (A : Option Addr) (len cap : Nat) (hv : v = .slice A len cap) :
    ∃ l : List α, len = l.length ∧ l.length ≤ cap ∧ d.C w A l.length l ∧ sliceOk B g l := by
  subst hv
  obtain ⟨fuel, hf⟩ := h
  obtain ⟨A', c, l, hcs, hl, hc, hg⟩ := open_rows ht hB L hf (fun n hn => by
    have := List.all_eq_true.1 hsz n (DataW.weights_mem_each htj hdj n hn)
    simpa using this)
  simp [Value.cells] at hcs
  obtain ⟨rfl, rfl, rfl⟩ := hcs
  exact ⟨l, rfl, hl, hc, hg⟩
end Go.Proofs.YtmmfakdncjeoeaaOpen
