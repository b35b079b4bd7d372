/- dict.Dict: at its block a map that numbers texts, and a row of its own with the texts; what lies at its three blocks, and that it stays where other things change. -/
import Derived.Test.YtmmfakdncjeoeaaMapSet
import Derived.Test.YtmmfakdncjeoeaaAid
import Derived.Test.YtmmfakdncjeoeaaWApart
import Derived.Test.YtmmfakdncjeoeaaWKept
import Derived.StringKeys
import Derived.WideKeyEntry
import Derived.Test.YtmmfakdncjeoeaaProg
namespace Go.Proofs.YtmmfakdncjeoeaaAid
open Go Go.RowKit Go.Maps Go.ChangeMaps Go.MapKept
open Go.Proofs.YtmmfakdncjeoeaaW.PrintWords Go.Proofs.YtmmfakdncjeoeaaW.PrintWords.Kd

def dok (s : ByteArray) : Prop := s.size ≤ 9223372036854775807
def dkl (s : ByteArray) : Lit := .string s.data.toList
theorem dkeys : KeyAs Try.prog 9 dok (fun s => .string s) dkl where
  K := string_keyed Try.underlying9
  key := fun x hx => WideMaps.keyOf_string_mk Try.underlying9 (by simpa [maxLen, dok] using hx)
  inj := fun x y h => by injection h

def dencL : List ByteArray → List UInt8
  | [] => []
  | s :: r => s.data.toList.flatMap (fun b => [1, b]) ++ 0 :: dencL r
def ddecL : List UInt8 → List UInt8 → List ByteArray
  | _, [] => []
  | cur, a :: r => if a = 0 then ⟨cur.reverse.toArray⟩ :: ddecL [] r else match r with
    | [] => []
    | b :: r' => ddecL (b :: cur) r'
def denc (l : List ByteArray) : ByteArray := ⟨(dencL l).toArray⟩
def ddec (s : ByteArray) : List ByteArray := ddecL [] s.data.toList
theorem ddecL_one (r : List UInt8) : ∀ (l cur : List UInt8), ddecL cur (l.flatMap (fun b => [1, b]) ++ 0 :: r) = ⟨(cur.reverse ++ l).toArray⟩ :: ddecL [] r
  | [], cur => by
    simp only [List.flatMap_nil, List.nil_append, List.append_nil]
    conv => lhs; unfold ddecL
    exact if_pos rfl
  | b :: l, cur => by
    simp only [List.flatMap_cons, List.cons_append, List.nil_append]
    conv => lhs; unfold ddecL
    rw [if_neg (by decide)]
    simp only
    rw [ddecL_one r l (b :: cur)]
    simp
theorem ddecL_enc : ∀ l : List ByteArray, ddecL [] (dencL l) = l
  | [] => rfl
  | s :: r => by rw [dencL, ddecL_one, ddecL_enc r]; simp
theorem ddec_enc (l : List ByteArray) : ddec (denc l) = l := by simp only [ddec, denc]; exact ddecL_enc l
def DictAt (w0 W : World) (g gm : Nat) (A : Option Addr) (c : Nat) (l : List ByteArray) : Prop :=
  W.heap[g]? = some (.cells #[.map (some gm), .slice A l.length c] 143 (0, 0)) ∧ w0.heap.size ≤ g ∧ w0.heap.size ≤ gm ∧
    HasPlaces Try.prog 9 3 dok dkl W gm l ∧ Kd.R Kd.string 9 W w0.heap.size (fun k => some k = (Value.slice A l.length c).ownBlock) (.slice A l.length c) l ∧ l.Nodup
def IsDict (w0 W : World) (g : Nat) (l : List ByteArray) : Prop := ∃ gm A c, DictAt w0 W g gm A c l

section
variable {w0 W W1 : World} {g gm : Nat} {A : Option Addr} {c : Nat} {l : List ByteArray}
theorem DictAt.grown (h : DictAt w0 W g gm A c l) {row : Option Nat} (hw : W.grownBy W1 row) (h1 : some g ≠ row) (h2 : some gm ≠ row) (h3 : ∀ k, some k = (Value.slice A l.length c).ownBlock → some k ≠ row) : DictAt w0 W1 g gm A c l := by
  obtain ⟨hb, k1, k2, hm, hr, hn⟩ := h
  exact ⟨blk_grown hb hw h1, k1, k2, hm.grown hw h2, Kd.R_grown hr hw h3, hn⟩
theorem DictAt.below (h : DictAt w0 W g gm A c l) (hw : Below W.heap.size W W1) : DictAt w0 W1 g gm A c l := by
  obtain ⟨hb, k1, k2, hm, hr, hn⟩ := h
  exact ⟨(hw.block g (blk_lt hb)).trans hb, k1, k2, hm.below hw (Nat.le_refl _), Kd.R_below hr hw, hn⟩
theorem DictAt.drewN (h : DictAt w0 W g gm A c l) (m : Nat) : DictAt w0 (W.drewN m) g gm A c l := by
  obtain ⟨hb, k1, k2, hm, hr, hn⟩ := h
  exact ⟨hb, k1, k2, hm.drewN m, Kd.R_drewN hr m, hn⟩
theorem IsDict.below (h : IsDict w0 W g l) (hw : Below W.heap.size W W1) : IsDict w0 W1 g l := by obtain ⟨gm, A, c, h⟩ := h; exact ⟨gm, A, c, h.below hw⟩
theorem IsDict.drewN (h : IsDict w0 W g l) (m : Nat) : IsDict w0 (W.drewN m) g l := by obtain ⟨gm, A, c, h⟩ := h; exact ⟨gm, A, c, h.drewN m⟩
theorem IsDict.drew (h : IsDict w0 W g l) : IsDict w0 W.drew g l := h.drewN 1
theorem IsDict.alloc (h : IsDict w0 W g l) (o : Obj) : IsDict w0 (W.alloc o) g l := h.below (below_alloc (Below.refl _ _) o)
theorem IsDict.at_ {w' : World} {m : Nat} (hq : W.drewN m = w') (h : IsDict w0 W g l) : IsDict w0 w' g l := by subst hq; exact h.drewN m
theorem IsDict.lt (h : IsDict w0 W g l) : g < W.heap.size := by obtain ⟨gm, A, c, hb, _⟩ := h; exact blk_lt hb
theorem IsDict.ge (h : IsDict w0 W g l) : w0.heap.size ≤ g := by obtain ⟨gm, A, c, _, h, _⟩ := h; exact h
def TyAt (W : World) (a : Nat) (t : TypeId) : Prop := ∃ cs, W.heap[a]? = some (.cells cs t (0, 0))
theorem TyAt.mk {W : World} {a : Nat} {t : TypeId} {cs : Array Value} (h : W.heap[a]? = some (.cells cs t (0, 0))) : TyAt W a t := ⟨cs, h⟩
theorem TyAt.set {W : World} {a : Nat} {t : TypeId} (h : TyAt W a t) (b o : Nat) (u : Value) : TyAt (W.setCell ⟨b, o, none⟩ u) a t := by
  obtain ⟨cs, h⟩ := h
  by_cases hp : a = b
  · subst hp
    exact ⟨_, blk_set h o u⟩
  · exact ⟨cs, blk_far h hp u⟩
theorem TyAt.alloc {W : World} {a : Nat} {t : TypeId} (h : TyAt W a t) (o : Obj) : TyAt (W.alloc o) a t := by obtain ⟨cs, h⟩ := h; exact ⟨cs, blk_alloc h o⟩
theorem TyAt.drewN {W : World} {a : Nat} {t : TypeId} (h : TyAt W a t) (m : Nat) : TyAt (W.drewN m) a t := h
theorem TyAt.drew {W : World} {a : Nat} {t : TypeId} (h : TyAt W a t) : TyAt W.drew a t := h
theorem DictAt.row_ty (h : DictAt w0 W g gm A c l) {k : Nat} (hk : some k = (Value.slice A l.length c).ownBlock) : TyAt W k 9 := by
  obtain ⟨_, _, _, q, hq, cells, hc⟩ := (Kd.R_bound h.2.2.2.2.1).1 k hk.symm
  have hq' : q = 9 := by simpa [Kd.string, Kd.scalar] using hq
  subst hq'
  exact ⟨cells, hc⟩
theorem DictAt.map_ty (h : DictAt w0 W g gm A c l) : ∃ es clock, W.heap[gm]? = some (.map es clock) := by
  obtain ⟨D, ⟨es, clock, hb, _⟩, _⟩ := h.2.2.2.1
  exact ⟨es, clock, hb⟩
theorem TyAt.same {W : World} {a : Nat} {t t' : TypeId} (h : TyAt W a t) (h' : TyAt W a t') : t = t' := by
  obtain ⟨cs, h⟩ := h
  obtain ⟨cs', h'⟩ := h'
  rw [h] at h'
  injection h' with h'
  injection h'
theorem DictAt.apart (h : DictAt w0 W g gm A c l) {a : Nat} {t : TypeId} (hT : TyAt W a t) (h1 : t ≠ 9) (h2 : t ≠ 143) : a ≠ g ∧ a ≠ gm ∧ some a ≠ (Value.slice A l.length c).ownBlock := by
  refine ⟨fun e => ?_, fun e => ?_, fun e => ?_⟩
  · subst e
    exact h2 (hT.same ⟨_, h.1⟩)
  · subst e
    obtain ⟨es, clock, hb⟩ := h.map_ty
    obtain ⟨cs, hc⟩ := hT
    rw [hb] at hc
    cases hc
  · exact h1 (hT.same (h.row_ty e))
theorem DictAt.set (h : DictAt w0 W g gm A c l) {a : Nat} (k : a ≠ g ∧ a ≠ gm ∧ some a ≠ (Value.slice A l.length c).ownBlock) (o : Nat) (u : Value) : DictAt w0 (W.setCell ⟨a, o, none⟩ u) g gm A c l := by
  obtain ⟨hb, k1, k2, hm, hr, hn⟩ := h
  exact ⟨blk_far hb (Ne.symm k.1) u, k1, k2, hm.set (Ne.symm k.2.1) u, Kd.R_far hr (fun k_ hk e => k.2.2 (by rw [← hk]; exact congrArg some e.symm)) u, hn⟩
theorem IsDict.farT (h : IsDict w0 W g l) {a o : Nat} {t : TypeId} (hT : TyAt W a t) (h1 : t ≠ 9) (h2 : t ≠ 143) (u : Value) : IsDict w0 (W.setCell ⟨a, o, none⟩ u) g l := by
  obtain ⟨gm, A, c, h⟩ := h
  exact ⟨gm, A, c, h.set (h.apart hT h1 h2) o u⟩
theorem IsDict.later {w1 : World} (h : IsDict w1 W g l) (hs : w0.heap.size ≤ w1.heap.size) : IsDict w0 W g l := by
  obtain ⟨gm, A, c, hb, k1, k2, hm, hr, hn⟩ := h
  exact ⟨gm, A, c, hb, Nat.le_trans hs k1, Nat.le_trans hs k2, hm, Kd.R_lower hr hs, hn⟩
theorem IsDict.ty (h : IsDict w0 W g l) : TyAt W g 143 := by obtain ⟨gm, A, c, h⟩ := h; exact ⟨_, h.1⟩
theorem IsDict.own_ne {α : Type} {d : Kd α} {e : Nat} {base : Nat} {ok : Nat → Prop} {v : Value} {xs : List α} (h : IsDict w0 W g l) (ho : d.R e W base ok v xs) (ht : e ≠ 143) : some g ≠ v.ownBlock := by
  obtain ⟨gm, A, c, h⟩ := h
  exact Kd.R_ne ho h.1 ht
theorem IsDict.rows {α : Type} {d : Kd α} {e : Nat} {base : Nat} {ok : Nat → Prop} {v : Value} {xs : List α} (h : IsDict w0 W g l) (ho : d.R e W base ok v xs) (ht : ∀ q, q ∈ e :: d.E → q ≠ 143) : d.R e W base (fun k => ok k ∧ k ≠ g) v xs := by
  obtain ⟨gm, A, c, h⟩ := h
  exact Kd.R_types ho h.1 ht
def DictKeep (W W1 : World) (g gm : Nat) (A : Option Addr) (n c : Nat) : Prop := ∀ k, k < W.heap.size → k ≠ g → k ≠ gm → some k ≠ (Value.slice A n c).ownBlock → W1.heap[k]? = W.heap[k]?
def DictKept (W W1 : World) : Prop := ∀ (k : Nat) (cs : Array Value) (t : TypeId), W.heap[k]? = some (Obj.cells cs t (0, 0)) → t ≠ 9 → t ≠ 143 → W1.heap[k]? = some (Obj.cells cs t (0, 0))
theorem DictKept.refl (W : World) : DictKept W W := fun _ _ _ h _ _ => h
theorem DictAt.kept {n : Nat} (h : DictAt w0 W g gm A c l) (hn : n = l.length) (hk : DictKeep W W1 g gm A n c) : DictKept W W1 := fun k cs t hb h1 h2 => by
  subst hn
  obtain ⟨a1, a2, a3⟩ := h.apart ⟨cs, hb⟩ h1 h2
  exact (hk k (blk_lt hb) a1 a2 a3).trans hb
def farObj : Obj → Bool
  | .cells _ t (0, 0) => t != 9 && t != 143
  | _ => false
theorem DictKept.blk (hk : DictKept W W1) {g' g : Nat} {o : Obj} (hb : W.heap[g']? = some o) (_hne : g' ≠ g) (_hs : some g' ≠ (none : Option Nat)) (hT : farObj o = true := by rfl) : W1.heap[g']? = some o := by
  match o, hb, hT with
  | .cells cs t (0, 0), hb, hT =>
    simp only [farObj, Bool.and_eq_true, bne_iff_ne] at hT
    exact hk g' cs t hb hT.1 hT.2
def DAp (W : World) (g : Nat) (v : Value) : Prop := ∀ (gm : Nat) (A : Option Addr) (n c : Nat), W.heap[g]? = some (Obj.cells #[.map (some gm), .slice A n c] 143 (0, 0)) → ∀ k, v.ownBlock = some k → some k ≠ (Value.slice A n c).ownBlock
theorem DictAt.same (h : DictAt w0 W g gm A c l) {gm' : Nat} {A' : Option Addr} {n' c' : Nat} (hb : W.heap[g]? = some (Obj.cells #[.map (some gm'), .slice A' n' c'] 143 (0, 0))) : gm' = gm ∧ (Value.slice A' n' c').ownBlock = (Value.slice A l.length c).ownBlock := by
  have h1 := h.1
  rw [hb] at h1
  injection h1 with h1
  injection h1 with h1 _
  injection h1 with h1
  injection h1 with h1 h2
  injection h2 with h2 _
  injection h1 with h1
  injection h1 with h1
  exact ⟨h1, by rw [h2]⟩
theorem DAp.after {v v1 : Value} {base : Nat} {xs : List ByteArray} (hI : IsDict w0 W g l) (ha : DAp W g v) (hg : W1.heap[g]? = W.heap[g]?) (ho : Kd.R Kd.string 9 W1 base (fun k_ => (some k_ = v.ownBlock ∨ W.heap.size ≤ k_)) v1 xs) : DAp W1 g v1 := fun gm' A' n' c' hb k hk e => by
  rw [hg] at hb
  rcases ho.1 k hk with h | h
  · exact ha gm' A' n' c' hb k h.symm e
  · obtain ⟨gm, A, c, hI⟩ := hI
    rw [(hI.same hb).2] at e
    obtain ⟨cs, hc⟩ := hI.row_ty e
    have := blk_lt hc
    omega
def PutKeep (W W1 : World) (g : Nat) : Prop := DictKept W W1 ∧ (∀ k, TyAt W k 9 → (∀ (gm : Nat) (A : Option Addr) (n c : Nat), W.heap[g]? = some (Obj.cells #[.map (some gm), .slice A n c] 143 (0, 0)) → some k ≠ (Value.slice A n c).ownBlock) → W1.heap[k]? = W.heap[k]?) ∧ ∀ v : Value, (∀ k, v.ownBlock = some k → k < W.heap.size) → DAp W g v → DAp W1 g v
theorem PutKeep.refl (W : World) (g : Nat) : PutKeep W W g := ⟨DictKept.refl W, fun _ _ _ => rfl, fun _ _ h => h⟩
theorem PutKeep.blk {g0 : Nat} (hk : PutKeep W W1 g0) {g' g : Nat} {o : Obj} (hb : W.heap[g']? = some o) (hne : g' ≠ g) (hs : some g' ≠ (none : Option Nat)) (hT : farObj o = true := by rfl) : W1.heap[g']? = some o := DictKept.blk hk.1 hb hne hs hT
theorem PutKeep.row {v : Value} {base : Nat} {ok : Nat → Prop} {xs : List ByteArray} (hk : PutKeep W W1 g) (ha : DAp W g v) (ho : Kd.R Kd.string 9 W base ok v xs) : Kd.R Kd.string 9 W1 base ok v xs :=
  Kd.R_mono (Kd.R_step (Go.Proofs.YtmmfakdncjeoeaaW.PrintWords.Kd.R_mono (Kd.R_tight rfl (Kd.R_bound ho)) (fun k hk_ => (⟨hk_, ho.1 k hk_.symm⟩ : some k = v.ownBlock ∧ ok k))) (fun k hk_ _ => hk.2.1 k (by
    obtain ⟨_, _, _, q, hq, cells, hc⟩ := (Kd.R_bound ho).1 k hk_.1.symm
    have hq' : q = 9 := by simpa [Kd.string, Kd.scalar] using hq
    subst hq'
    exact ⟨cells, hc⟩) (fun gm A n c hb => ha gm A n c hb k hk_.1.symm))) (fun k h => h.2)
theorem DictAt.putKeep {A' : Option Addr} {c' : Nat} {l' : List ByteArray} (h : DictAt w0 W g gm A c l) (h' : DictAt w0 W1 g gm A' c' l') (hk : DictKeep W W1 g gm A l.length c) (hat : (Value.slice A' l'.length c').ownBlock = (Value.slice A l.length c).ownBlock ∨ ∃ b, (Value.slice A' l'.length c').ownBlock = some b ∧ W.heap.size ≤ b) : PutKeep W W1 g := by
  refine ⟨h.kept rfl hk, fun k hT hn => ?_, fun v hv ha gm2 A2 n2 c2 hb k hk2 e => ?_⟩
  · obtain ⟨cs, hc⟩ := hT
    refine hk k (blk_lt hc) (fun e => ?_) (fun e => ?_) (hn gm A _ c h.1)
    · subst e
      have := h.1
      rw [hc] at this
      injection this with this
      injection this with _ this
      exact absurd this (by decide)
    · subst e
      obtain ⟨es, clock, hb⟩ := h.map_ty
      rw [hb] at hc
      cases hc
  · rw [(h'.same hb).2] at e
    rcases hat with hat | ⟨b, hb2, hlt⟩
    · rw [hat] at e
      exact ha gm A _ c h.1 k hk2 e
    · rw [hb2] at e
      injection e with e
      have := hv k hk2
      omega
end
theorem entry_places {P : Program} {k e t : TypeId} {ok : ByteArray → Prop} {kl : ByteArray → Lit} {kv : ByteArray → Value} {w : World} {b : Nat} {acc : List ByteArray} (KA : KeyAs P k ok kv kl) (KL : WideMaps.KeyLaw P k) (ht : P.underlying t = some (.map k e)) (he : P.underlying e = some (.int .i64))
    (hz : ∀ u : World, (zeroValue e).run P u = .ok (.int .i64 0) u) (h : HasPlaces P k e ok kl w b acc) (hn : acc.length < 9223372036854775807) (y : ByteArray) (hy : ok y) (hnew : y ∉ acc) :
    ∃ (v0 : Value) (st : Nat) (m1 m2 : Obj), (Instr.mapEntry t (.map (some b)) (kv y)).run P w = .ok (.tuple #[v0, goInt st]) (setBlock w b m1) ∧
      (∀ w2 : World, w2.heap[b]? = some m1 → (Instr.entryStore t (.map (some b)) (goInt st) (.int .i64 (acc.length : Int))).run P w2 = .ok () (setBlock w2 b m2)) ∧
      ∀ w3 : World, w3.heap[b]? = some m2 → HasPlaces P k e ok kl w3 b (acc ++ [y]) := by
  obtain ⟨D, h1, h2⟩ := h
  have h1' := h1
  obtain ⟨es, clock, hb, F, hs, hD⟩ := h1'
  obtain ⟨v0, st, es1, clock1, k1, _, k2⟩ := WideElems.entry_then_store (R := plainElem P e) KL ht hz hb F (KA.key y hy)
  have hwc : (Lit.int .i64 (acc.length : Int)).wf = true := by simp [Lit.wf, IntKind.min, IntKind.max, IntKind.signed, IntKind.bits]; omega
  have hlt : b < w.heap.size := (Array.getElem?_eq_some_iff.1 hb).1
  obtain ⟨es2, clock2, r1, r2⟩ := k2 (setBlock w b (.map es1 clock1)) (.int .i64 (acc.length : Int)) (heap_setBlock_same hb _)
  obtain ⟨w', q1, q2, q3⟩ := h1.update KA.K ht (by simpa [maxLen] using hn) (KA.key y hy) (plainElem_int (H := Unit) he hwc)
  rw [r2] at q1
  injection q1 with _ q1
  subst q1
  refine ⟨v0, st, .map es1 clock1, .map es2 clock2, k1, fun w2 hw2 => ?_, fun w3 hw3 => ?_⟩
  · obtain ⟨es3, clock3, s1, s2⟩ := k2 w2 (.int .i64 (acc.length : Int)) hw2
    rw [r2] at s2
    injection s2 with _ s2
    have e1 : (setBlock w b (.map es2 clock2)).heap[b]? = (setBlock w b (.map es3 clock3)).heap[b]? := by rw [s2]
    rw [heap_setBlock_same hb, heap_setBlock_same hb] at e1
    rw [s1]
    injection e1 with e1
    rw [e1]
  · refine ⟨D.put (kl y) (.lit (.int .i64 (acc.length : Int))), ?_, fun z hzz => ?_⟩
    · obtain ⟨es4, clock4, hb4, F4, hs4, hD4⟩ := q2
      rw [heap_setBlock_same hb] at hb4
      injection hb4 with hb4
      injection hb4 with e1 e2
      subst e1
      subst e2
      exact ⟨es2, clock2, hw3, F4, by simpa using hs4, hD4⟩
    · by_cases hzy : z = y
      · subst hzy
        rw [has_put_same h1.isMap (KA.K.key (KA.key z hzz)), atKey_put_same h1.isMap (KA.K.key (KA.key z hzz))]
        simp [List.idxOf_append, hnew]
      · rw [has_put_other (KA.ne hzz hy hzy), atKey_put_other (KA.ne hzz hy hzy), (h2 z hzz).1, (h2 z hzz).2]
        by_cases hm' : z ∈ acc
        · simp [hzy, hm', List.idxOf_append]
        · simp [hzy, hm']
end Go.Proofs.YtmmfakdncjeoeaaAid
