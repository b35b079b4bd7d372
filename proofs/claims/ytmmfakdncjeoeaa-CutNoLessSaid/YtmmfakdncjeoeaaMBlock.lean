/- Plain laws on blocks (layer 14): the payload of points that may be. -/
import Derived.Test.YtmmfakdncjeoeaaMTraceCheck
import Derived.Test.YtmmfakdncjeoeaaMDict
import Derived.Test.YtmmfakdncjeoeaaMBlob
import Derived.Test.YtmmfakdncjeoeaaMFold
import Derived.Test.YtmmfakdncjeoeaaPCx3
import Derived.Test.YtmmfakdncjeoeaaPCx4
import Derived.Test.YtmmfakdncjeoeaaPCx5
import Derived.Test.YtmmfakdncjeoeaaPCx6
set_option linter.unusedVariables false
namespace Go.Proofs.Ytmmfakdncjeoeaa.MBlock
open Go.RowKit Go.Proofs.Ytmmfakdncjeoeaa.PC Go.Proofs.Ytmmfakdncjeoeaa.MPts Go.Proofs.Ytmmfakdncjeoeaa.MPut Go.Proofs.Ytmmfakdncjeoeaa.MDict Go.Proofs.Ytmmfakdncjeoeaa.MBase Go.Proofs.YtmmfakdncjeoeaaAid Go.Proofs.YtmmfakdncjeoeaaW.PrintWords Go.Proofs.YtmmfakdncjeoeaaW.PrintLast Go.Proofs.YtmmfakdncjeoeaaW.PrintMore

abbrev Pred := S53
/-! ### what is of a signature -/
def OkA (a : Argm) : Prop := (a.f0 = 1 ∧ a.f2 = MBlob.nobytes) ∨ (a.f0 = 2 ∧ a.f1 = 0 ∧ a.f2.size ≤ 200)
theorem argc_ok {t : Int} {a : Argm} (ht : t = 1 ∨ t = 2) (h : MTrace.argc t a = 0) : a.f0 = t ∧ OkA a := by
  unfold MTrace.argc at h
  split at h
  · rename_i h0
    split at h
    · cases h
    · rename_i hb
      split at h
      · cases h
      · rename_i hs
        refine ⟨h0, ?_⟩
        rcases ht with rfl | rfl
        · refine .inl ⟨h0, toList_inj ?_⟩
          simp [MTrace.argb] at hb
          rw [hb, MBlob.nobytes_toList]
        · refine .inr ⟨h0, ?_, by omega⟩
          simpa [MTrace.argb] using hb
  · cases h
def OkE (sig : List Pred) (e : Evt) : Prop := (0 ≤ e.f0 ∧ e.f0 < (sig.length : Int)) ∧ e.f1.length ≤ 8 ∧ e.f1.map (·.f0) = (rd_T53 sig e.f0).f1 ∧ ∀ a ∈ e.f1, OkA a
theorem argsc_ok (ts : List Int) (xs : List Argm) (he : ts.length = xs.length) (ht : ∀ x ∈ ts, x = 1 ∨ x = 2) : ∀ (n i : Nat), n + i = xs.length → MTrace.argsc ts xs n i = 0 → (xs.drop i).map (·.f0) = ts.drop i ∧ ∀ a ∈ xs.drop i, OkA a
  | 0, i => fun hn _ => by rw [List.drop_eq_nil_of_le (by omega), List.drop_eq_nil_of_le (by omega)]; exact ⟨rfl, fun a ha => by cases ha⟩
  | n + 1, i => fun hn h => by
    simp only [MTrace.argsc] at h
    rw [at_a xs i (by omega), at_i ts i (by omega)] at h
    split at h
    · rename_i h0
      obtain ⟨h1, h2⟩ := argc_ok (ht _ (List.getElem_mem (by omega))) h0
      obtain ⟨h3, h4⟩ := argsc_ok ts xs he ht n (i + 1) (by omega) h
      rw [List.drop_eq_getElem_cons (by omega : i < xs.length), List.drop_eq_getElem_cons (by omega : i < ts.length)]
      refine ⟨by rw [List.map_cons, h3, h1], fun a ha => ?_⟩
      rcases List.mem_cons.1 ha with rfl | ha
      · exact h2
      · exact h4 a ha
    · rename_i h0
      exact absurd h h0
theorem good_at {sig : List Pred} (h : MSig.check sig = 0) {i : Int} (h0 : 0 ≤ i) (h1 : i < (sig.length : Int)) : (rd_T53 sig i).f1.length ≤ 8 ∧ ∀ x ∈ (rd_T53 sig i).f1, x = 1 ∨ x = 2 := by
  obtain ⟨n, rfl⟩ := Int.eq_ofNat_of_zero_le h0
  obtain ⟨_, _, h2, h3⟩ := ((MSig.check_zero sig).1 h).2 n (by omega)
  rw [MSig.rd_pred]
  refine ⟨h2, fun x hx => ?_⟩
  have := List.all_eq_true.1 h3 x hx
  simpa [MSig.typeOk] using this
theorem evc_ok {sig : List Pred} (hc : MSig.check sig = 0) {e : Evt} (h : MTrace.evc sig e = 0) : OkE sig e := by
  unfold MTrace.evc at h
  split at h
  · cases h
  · rename_i h0
    split at h
    · rename_i h1
      obtain ⟨g1, g2⟩ := good_at hc (i := e.f0) (by omega) (by omega)
      obtain ⟨h2, h3⟩ := argsc_ok _ e.f1 (by omega) g2 e.f1.length 0 (by omega) h
      exact ⟨⟨by omega, by omega⟩, by omega, by simpa using h2, by simpa using h3⟩
    · cases h
def OkP (sig : List Pred) (p : Pnt) : Prop := p.f1.length ≤ 1024 ∧ ∀ e ∈ p.f1, OkE sig e
theorem evsc_ok {sig : List Pred} (hc : MSig.check sig = 0) (es : List Evt) : ∀ (n i : Nat), n + i = es.length → MTrace.evsc sig es n i = 0 → ∀ e ∈ es.drop i, OkE sig e
  | 0, i => fun hn _ => by rw [List.drop_eq_nil_of_le (by omega)]; exact fun a ha => by cases ha
  | n + 1, i => fun hn h => by
    simp only [MTrace.evsc] at h
    rw [at_e es i (by omega)] at h
    split at h
    · rename_i h0
      rw [List.drop_eq_getElem_cons (by omega : i < es.length)]
      intro e he
      rcases List.mem_cons.1 he with rfl | he
      · exact evc_ok hc h0
      · exact evsc_ok hc es n (i + 1) (by omega) h e he
    · rename_i h0
      exact absurd h h0
def asc : Int → List Pnt → Prop
  | _, [] => True
  | a, p :: r => a ≤ p.f0 ∧ asc p.f0 r
theorem trc_ok {sig : List Pred} (hc : MSig.check sig = 0) (t : List Pnt) : ∀ (n i : Nat) (ah : Int), n + i = t.length → (MTrace.trc sig t n i ah).1 = 0 → (∀ p ∈ t.drop i, OkP sig p) ∧ asc ah (t.drop i)
  | 0, i, ah => fun hn _ => by rw [List.drop_eq_nil_of_le (by omega)]; exact ⟨(fun a ha => by cases ha), trivial⟩
  | n + 1, i, ah => fun hn h => by
    simp only [MTrace.trc] at h
    rw [at_pt t i (by omega)] at h
    split at h
    · rename_i h0
      obtain ⟨h1, h2⟩ := trc_ok hc t n (i + 1) _ (by omega) h
      rw [List.drop_eq_getElem_cons (by omega : i < t.length)]
      unfold MTrace.ptc at h0
      split at h0
      · cases h0
      · rename_i ha
        split at h0
        · cases h0
        · rename_i hm
          refine ⟨fun p hp => ?_, by omega, h2⟩
          rcases List.mem_cons.1 hp with rfl | hp
          · exact ⟨by omega, by have := evsc_ok hc _ _ 0 (by omega) h0; simpa using this⟩
          · exact h1 p hp
    · rename_i h0
      exact absurd h h0
theorem tcheck_ok {sig : List Pred} {t : List Pnt} (h : (MTrace.tcheck sig t).1 = 0) : MSig.check sig = 0 ∧ (∀ p ∈ t, OkP sig p) ∧ asc 0 t := by
  unfold MTrace.tcheck at h
  split at h
  · rename_i hc
    obtain ⟨h1, h2⟩ := trc_ok hc t t.length 0 0 (by omega) h
    exact ⟨hc, by simpa using h1, by simpa using h2⟩
  · rename_i hc
    exact absurd h hc

/-! ### the payload -/
def argB (D : List ByteArray) (a : Argm) : List Int := if a.f0 = 1 then wbytes (MFold.foldN a.f1).toNat else wbytes (D.idxOf a.f2)
def evB (D : List ByteArray) (e : Evt) : List Int := wbytes e.f0.toNat ++ e.f1.flatMap (argB D)
def ptB (D : List ByteArray) (p : Pnt) : List Int := wbytes p.f1.length ++ p.f1.flatMap (evB D)
def ptsB (D : List ByteArray) : Int → List Pnt → List Int
  | _, [] => []
  | a, p :: r => wbytes (IntKind.u64.wrap (p.f0 - a)).toNat ++ (ptB D p ++ ptsB D p.f0 r)
def dict (t : List Pnt) : List ByteArray := puts [] (strs t)
def tailB (t : List Pnt) : List Int := wbytes t.length ++ (wbytes (dict t).length ++ ((dict t).flatMap MBlob.bbytes ++ (match t with | [] => [] | p :: r => ptB (dict t) p ++ ptsB (dict t) p.f0 r)))
def pay (t : List Pnt) : List Int := (match t with | [] => [] | p :: _ => wbytes p.f0.toNat) ++ tailB t

def ArgIn (D : List ByteArray) (a : Argm) : Prop := OkA a ∧ (-9223372036854775808 ≤ a.f1 ∧ a.f1 ≤ 9223372036854775807) ∧ (a.f0 = 2 → a.f2 ∈ D)
theorem argB_len {D : List ByteArray} (hD : D.length < 9223372036854775808) {a : Argm} (h : ArgIn D a) : (argB D a).length ≤ 10 := by
  unfold argB
  split
  · have := MFold.foldN_range (x := a.f1) h.2.1.1 (by have := h.2.1.2; omega)
    exact MW.wbytes_le10 (by omega)
  · have := List.idxOf_le_length (a := a.f2) (l := D)
    exact MW.wbytes_le10 (by omega)
theorem flat_len {α : Type} {f : α → List Int} {c : Nat} : ∀ (l : List α), (∀ x ∈ l, (f x).length ≤ c) → (l.flatMap f).length ≤ c * l.length
  | [], _ => by simp
  | x :: l, h => by
    have h1 := h x List.mem_cons_self
    have h2 := flat_len l (fun y hy => h y (List.mem_cons_of_mem _ hy))
    rw [List.flatMap_cons, List.length_append, List.length_cons, Nat.mul_add]
    omega
theorem writer_eq {s : ByteArray} {a : Argm} (hD : (ddec s).length < 9223372036854775808) (h : ArgIn (ddec s) a) : ∃ n : Nat, n < 18446744073709551616 ∧ block_writers_1.f s a.f0 a.f1 a.f2 = some ((n : Int), s) ∧ argB (ddec s) a = wbytes n := by
  obtain ⟨h1, h2, h3⟩ := h
  unfold block_writers_1.f argB
  rcases h1 with ⟨e0, _⟩ | ⟨e0, _, hs⟩
  · rw [if_pos e0, if_pos e0, MFold.fold_eq h2.1 (by omega)]
    have := MFold.foldN_range (x := a.f1) h2.1 (by omega)
    exact ⟨(MFold.foldN a.f1).toNat, by omega, by rw [Option.bind_some, Int.toNat_of_nonneg this.1], rfl⟩
  · have hx := List.idxOf_le_length (a := a.f2) (l := ddec s)
    rw [if_neg (by omega), if_pos e0, if_pos (by omega), if_pos (h3 e0), if_neg (by omega), wu64 (by omega) (by omega)]
    exact ⟨_, by omega, rfl, rfl⟩
theorem pay3 (t : List Pnt) (i : Nat) (es : List Evt) (j : Nat) (hj : j < 9223372036854775806) (xs : List Argm) (s : ByteArray) (hD : (ddec s).length < 9223372036854775808) (hx : xs.length ≤ 8) (hA : ∀ a ∈ xs, ArgIn (ddec s) a) (v : List Int) : ∀ (d q : Nat) (out : List Int), d + q = xs.length → out.length + 10 * d ≤ 140737488355000 →
    Ev (fun k => block_payload.l2 k t (out ++ (xs.drop q).flatMap (argB (ddec s))) t (t.length : Int) (i : Int) es (es.length : Int) ((j + 1 : Nat) : Int) s) v → Ev (fun k => block_payload.l3 k t out t (t.length : Int) (i : Int) es (es.length : Int) (j : Int) xs (xs.length : Int) (q : Int) s) v
  | 0, q, out => fun hd hl hv => by
    rw [List.drop_eq_nil_of_le (by omega), List.flatMap_nil, List.append_nil] at hv
    refine Ev.step (f := fun k => block_payload.l2 k t out t (t.length : Int) (i : Int) es (es.length : Int) ((j + 1 : Nat) : Int) s) (fun k => ?_) hv
    simp only [block_payload.l3]
    rw [if_neg (by omega), w64 (by omega) (by omega)]
    rfl
  | d + 1, q, out => fun hd hl hv => by
    have hq : q < xs.length := by omega
    rw [List.drop_eq_getElem_cons hq, List.flatMap_cons, ← List.append_assoc] at hv
    have ha := hA _ (List.getElem_mem hq)
    obtain ⟨n, hn, hw, hb⟩ := writer_eq hD ha
    have hbl := argB_len hD ha
    have ih := pay3 t i es j hj xs s hD hx hA v d (q + 1) (out ++ argB (ddec s) xs[q]) (by omega) (by rw [List.length_append]; omega) hv
    refine Ev.step (f := fun k => block_payload.l3 k t (out ++ argB (ddec s) xs[q]) t (t.length : Int) (i : Int) es (es.length : Int) (j : Int) xs (xs.length : Int) ((q + 1 : Nat) : Int) s) (fun k => ?_) ih
    simp only [block_payload.l3]
    rw [if_pos (by omega), if_pos (by omega), if_pos (by omega), at_a xs q hq, hw, Option.bind_some, MW.put_eq out n (by omega) hn, Option.bind_some, w64 (by omega) (by omega), hb]
    rfl
def EvIn (D : List ByteArray) (e : Evt) : Prop := (0 ≤ e.f0 ∧ e.f0 < 9223372036854775808) ∧ e.f1.length ≤ 8 ∧ ∀ a ∈ e.f1, ArgIn D a
theorem evB_len {D : List ByteArray} (hD : D.length < 9223372036854775808) {e : Evt} (h : EvIn D e) : (evB D e).length ≤ 100 := by
  unfold evB
  have h1 := MW.wbytes_le10 (m := e.f0.toNat) (by have := h.1; omega)
  have h2 := flat_len (f := argB D) (c := 10) e.f1 (fun a ha => argB_len hD (h.2.2 a ha))
  have h3 := h.2.1
  rw [List.length_append]
  omega
theorem pay2 (t : List Pnt) (i : Nat) (hi : i < 9223372036854775806) (es : List Evt) (hm : es.length < 9223372036854775807) (s : ByteArray) (hD : (ddec s).length < 9223372036854775808) (hE : ∀ e ∈ es, EvIn (ddec s) e) (v : List Int) : ∀ (d j : Nat) (out : List Int), d + j = es.length → out.length + 100 * d ≤ 140737488350000 →
    Ev (fun k => block_payload.l1 k t (out ++ (es.drop j).flatMap (evB (ddec s))) t (t.length : Int) ((i + 1 : Nat) : Int) s) v → Ev (fun k => block_payload.l2 k t out t (t.length : Int) (i : Int) es (es.length : Int) (j : Int) s) v
  | 0, j, out => fun hd hl hv => by
    rw [List.drop_eq_nil_of_le (by omega), List.flatMap_nil, List.append_nil] at hv
    refine Ev.step (f := fun k => block_payload.l1 k t out t (t.length : Int) ((i + 1 : Nat) : Int) s) (fun k => ?_) hv
    simp only [block_payload.l2]
    rw [if_neg (by omega), w64 (by omega) (by omega)]
    rfl
  | d + 1, j, out => fun hd hl hv => by
    have hj : j < es.length := by omega
    rw [List.drop_eq_getElem_cons hj, List.flatMap_cons, ← List.append_assoc] at hv
    have he := hE _ (List.getElem_mem hj)
    have hbl := evB_len hD he
    have h1 := MW.wbytes_le10 (m := es[j].f0.toNat) (by have := he.1; omega)
    have ih := pay2 t i hi es hm s hD hE v d (j + 1) (out ++ evB (ddec s) es[j]) (by omega) (by rw [List.length_append]; omega) hv
    have h3 := pay3 t i es j (by omega) es[j].f1 s hD he.2.1 he.2.2 v es[j].f1.length 0 (out ++ wbytes es[j].f0.toNat) (by omega) (by rw [List.length_append]; have := he.2.1; omega) (by rw [List.drop_zero, List.append_assoc]; exact ih)
    refine Ev.step (f := fun k => block_payload.l3 k t (out ++ wbytes es[j].f0.toNat) t (t.length : Int) (i : Int) es (es.length : Int) (j : Int) es[j].f1 (es[j].f1.length : Int) 0 s) (fun k => ?_) h3
    have hp := MW.put_eq out es[j].f0.toNat (by omega) (by have := he.1; omega)
    rw [Int.toNat_of_nonneg he.1.1] at hp
    simp only [block_payload.l2]
    rw [if_pos (by omega), if_pos (by omega), if_pos (by omega), at_e es j hj, wu64 (by have := he.1; omega) (by have := he.1; omega), hp, Option.bind_some]
def PtIn (D : List ByteArray) (p : Pnt) : Prop := (0 ≤ p.f0 ∧ p.f0 < 18446744073709551616) ∧ p.f1.length ≤ 1024 ∧ ∀ e ∈ p.f1, EvIn D e
theorem ptB_len {D : List ByteArray} (hD : D.length < 9223372036854775808) {p : Pnt} (h : PtIn D p) : (ptB D p).length ≤ 102500 := by
  unfold ptB
  have h1 := MW.wbytes_le10 (m := p.f1.length) (by have := h.2.1; omega)
  have h2 := flat_len (f := evB D) (c := 100) p.f1 (fun e he => evB_len hD (h.2.2 e he))
  have h3 := h.2.1
  rw [List.length_append]
  omega
theorem payj (t : List Pnt) (i : Nat) (hi : i < 9223372036854775806) (p : Pnt) (s : ByteArray) (hD : (ddec s).length < 9223372036854775808) (hp : PtIn (ddec s) p) (v out : List Int) (hl : out.length ≤ 140737480000000) (hv : Ev (fun k => block_payload.l1 k t (out ++ ptB (ddec s) p) t (t.length : Int) ((i + 1 : Nat) : Int) s) v) :
    Ev (fun k => block_payload.j2 k t out t (t.length : Int) (i : Int) s p.f0 p.f1) v := by
  have h1 := MW.wbytes_le10 (m := p.f1.length) (by have := hp.2.1; omega)
  have h3 := hp.2.1
  have h2 := pay2 t i hi p.f1 (by omega) s hD hp.2.2 v p.f1.length 0 (out ++ wbytes p.f1.length) (by omega) (by rw [List.length_append]; omega) (by rw [List.drop_zero, List.append_assoc]; exact hv)
  refine Ev.step (f := fun k => block_payload.l2 k t (out ++ wbytes p.f1.length) t (t.length : Int) (i : Int) p.f1 (p.f1.length : Int) 0 s) (fun k => ?_) h2
  simp only [block_payload.j2]
  rw [wu64 (by omega) (by omega), MW.put_eq out p.f1.length (by omega) (by omega), Option.bind_some]
def restB (D : List ByteArray) (t : List Pnt) (i : Nat) : List Int := if h : 0 < i ∧ i ≤ t.length then ptsB D (t[i - 1]'(by omega)).f0 (t.drop i) else (match t.drop i with | [] => [] | p :: r => ptB D p ++ ptsB D p.f0 r)
theorem pay1 (t : List Pnt) (ht : t.length ≤ 1024) (s : ByteArray) (hD : (ddec s).length < 9223372036854775808) (hP : ∀ p ∈ t, PtIn (ddec s) p) : ∀ (d i : Nat) (out : List Int), d + i = t.length → 0 < i → out.length + 110000 * d ≤ 140737000000000 →
    Ev (fun k => block_payload.l1 k t out t (t.length : Int) (i : Int) s) (out ++ restB (ddec s) t i)
  | 0, i, out => fun hd hi hl => by
    have e : restB (ddec s) t i = [] := by unfold restB; rw [dif_pos ⟨hi, by omega⟩, List.drop_eq_nil_of_le (by omega)]; rfl
    rw [e, List.append_nil]
    refine Ev.step (f := fun _ => some out) (fun k => ?_) (Ev.now _)
    simp only [block_payload.l1]
    rw [if_neg (by omega)]
  | d + 1, i, out => fun hd hi hl => by
    have hit : i < t.length := by omega
    have hp := hP _ (List.getElem_mem hit)
    have hpl := ptB_len hD hp
    have e : restB (ddec s) t i = wbytes (IntKind.u64.wrap (t[i].f0 - (t[i - 1]'(by omega)).f0)).toNat ++ (ptB (ddec s) t[i] ++ restB (ddec s) t (i + 1)) := by
      unfold restB
      rw [dif_pos ⟨hi, by omega⟩, dif_pos ⟨by omega, by omega⟩, List.drop_eq_getElem_cons hit]
      rfl
    have hw : 0 ≤ IntKind.u64.wrap (t[i].f0 - (t[i - 1]'(by omega)).f0) ∧ IntKind.u64.wrap (t[i].f0 - (t[i - 1]'(by omega)).f0) < 18446744073709551616 := by rw [IntKind.wrap_u64]; omega
    have h1 := MW.wbytes_le10 (m := (IntKind.u64.wrap (t[i].f0 - (t[i - 1]'(by omega)).f0)).toNat) (by omega)
    have ih := pay1 t ht s hD hP d (i + 1) ((out ++ wbytes (IntKind.u64.wrap (t[i].f0 - (t[i - 1]'(by omega)).f0)).toNat) ++ ptB (ddec s) t[i]) (by omega) (by omega) (by rw [List.length_append, List.length_append]; omega)
    rw [e, ← List.append_assoc, ← List.append_assoc]
    have hj := payj t i (by omega) t[i] s hD hp _ (out ++ wbytes (IntKind.u64.wrap (t[i].f0 - (t[i - 1]'(by omega)).f0)).toNat) (by rw [List.length_append]; omega) ih
    refine Ev.step (f := fun k => block_payload.j2 k t (out ++ wbytes (IntKind.u64.wrap (t[i].f0 - (t[i - 1]'(by omega)).f0)).toNat) t (t.length : Int) (i : Int) s t[i].f0 t[i].f1) (fun k => ?_) hj
    have hpt := MW.put_eq out (IntKind.u64.wrap (t[i].f0 - (t[i - 1]'(by omega)).f0)).toNat (by omega) (by omega)
    rw [Int.toNat_of_nonneg hw.1] at hpt
    have e1 : wrap64 ((i : Int) - 1) = ((i - 1 : Nat) : Int) := by rw [w64 (by omega) (by omega)]; omega
    simp only [block_payload.l1]
    rw [if_pos (by omega), if_pos (by omega), if_pos (by omega), if_pos (by omega), e1, if_pos (by omega), if_pos (by omega), at_pt t i hit, at_pt t (i - 1) (by omega), hpt, Option.bind_some]
theorem pay0 (t : List Pnt) (s : ByteArray) (hz : ∀ x ∈ ddec s, x.size ≤ 200) (hD : (ddec s).length < 1000000000) (v : List Int) : ∀ (d i : Nat) (out : List Int), d + i = (ddec s).length → out.length + 300 * d ≤ 100000000000000 →
    Ev (fun k => block_payload.l1 k t (out ++ ((ddec s).drop i).flatMap MBlob.bbytes) t (t.length : Int) 0 s) v → Ev (fun k => block_payload.l0 k t out (ddec s) ((ddec s).length : Int) (i : Int) s) v
  | 0, i, out => fun hd hl hv => by
    rw [List.drop_eq_nil_of_le (by omega), List.flatMap_nil, List.append_nil] at hv
    refine Ev.step (f := fun k => block_payload.l1 k t out t (t.length : Int) 0 s) (fun k => ?_) hv
    simp only [block_payload.l0]
    rw [if_neg (by omega)]
  | d + 1, i, out => fun hd hl hv => by
    have hi : i < (ddec s).length := by omega
    rw [List.drop_eq_getElem_cons hi, List.flatMap_cons, ← List.append_assoc] at hv
    have hsz := hz _ (List.getElem_mem hi)
    have h1 := MW.wbytes_le10 (m := ((ddec s)[i]).size) (by omega)
    have hbl := MBlob.bbytes_len (ddec s)[i]
    have ih := pay0 t s hz hD v d (i + 1) (out ++ MBlob.bbytes (ddec s)[i]) (by omega) (by rw [List.length_append]; omega) hv
    refine Ev.step (f := fun k => block_payload.l0 k t (out ++ MBlob.bbytes (ddec s)[i]) (ddec s) ((ddec s).length : Int) ((i + 1 : Nat) : Int) s) (fun k => ?_) ih
    simp only [block_payload.l0]
    rw [if_pos (by omega), if_pos (by omega), if_pos (by omega), at_s _ i hi, MBlob.put_bytes out _ (by omega) (by omega), Option.bind_some, w64 (by omega) (by omega)]
    rfl
theorem strs_ok {t : List Pnt} {sig : List Pred} (hP : ∀ p ∈ t, OkP sig p) : ∀ x ∈ strs t, x.size ≤ 200 := by
  intro x hx
  obtain ⟨p, hp, hx⟩ := List.mem_flatMap.1 hx
  obtain ⟨e, he, hx⟩ := List.mem_flatMap.1 hx
  obtain ⟨a, ha, hx⟩ := List.mem_filterMap.1 hx
  unfold strA at hx
  split at hx
  · obtain rfl := Option.some.inj hx
    rename_i h2
    rcases ((hP p hp).2 e he).2.2.2 a ha with h | h
    · omega
    · exact h.2.2
  · cases hx
theorem flat_le {α β : Type} {f : α → List β} {c : Nat} : ∀ (l : List α), (∀ x ∈ l, (f x).length ≤ c) → (l.flatMap f).length ≤ c * l.length
  | [], _ => by simp
  | x :: l, h => by
    have h1 := h x List.mem_cons_self
    have h2 := flat_le l (fun y hy => h y (List.mem_cons_of_mem _ hy))
    rw [List.flatMap_cons, List.length_append, List.length_cons, Nat.mul_add]
    omega
theorem strs_len {t : List Pnt} {sig : List Pred} (hP : ∀ p ∈ t, OkP sig p) (ht : t.length ≤ 1024) : (strs t).length ≤ 8388608 := by
  have h1 := flat_le (f := strsP) (c := 8192) t (fun p hp => by
    have h2 := flat_le (f := strsE) (c := 8) p.f1 (fun e he => by
      have h3 := ((hP p hp).2 e he).2.1
      have h4 := List.length_filterMap_le strA e.f1
      unfold strsE
      omega)
    have h5 := (hP p hp).1
    unfold strsP
    omega)
  unfold strs
  omega
theorem pt_in {t : List Pnt} {sig : List Pred} (hsig : sig.length ≤ 64) (hf : FitsT t) (hn : ∀ p ∈ t, ∀ e ∈ p.f1, ∀ a ∈ e.f1, -9223372036854775808 ≤ a.f1 ∧ a.f1 ≤ 9223372036854775807) (hP : ∀ p ∈ t, OkP sig p) : ∀ p ∈ t, PtIn (dict t) p := by
  intro p hp
  obtain ⟨h0, _, _⟩ := hf.2 p hp
  obtain ⟨h1, h2⟩ := hP p hp
  refine ⟨h0, h1, fun e he => ?_⟩
  obtain ⟨h3, h4, _, h5⟩ := h2 e he
  refine ⟨⟨h3.1, by omega⟩, h4, fun a ha => ⟨h5 a ha, hn p hp e he a ha, fun h6 => ?_⟩⟩
  unfold dict
  rw [mem_puts]
  refine .inr (List.mem_flatMap.2 ⟨p, hp, List.mem_flatMap.2 ⟨e, he, List.mem_filterMap.2 ⟨a, ha, ?_⟩⟩⟩)
  exact if_pos h6
theorem payload_ev (t : List Pnt) (sig : List Pred) (hsig : sig.length ≤ 64) (hf : FitsT t) (hn : ∀ p ∈ t, ∀ e ∈ p.f1, ∀ a ∈ e.f1, -9223372036854775808 ≤ a.f1 ∧ a.f1 ≤ 9223372036854775807) (h0 : 0 < t.length) (ht : t.length ≤ 1024) (hP : ∀ p ∈ t, OkP sig p) : Ev (fun k => block_payload.f k t) (pay t) := by
  have hln := strs_len hP ht
  have hd := of_dec t
  have hpl := puts_len (strs t) []
  simp only [List.length_nil, Nat.zero_add] at hpl
  have hdl : (dict t).length ≤ 8388608 := by unfold dict; omega
  have hD : ddec (putsS (denc []) (strs t)) = dict t := hd
  have hall : dict_Dict_All.f (putsS (denc []) (strs t)) = some (dict t, putsS (denc []) (strs t)) := by unfold dict_Dict_All.f; rw [hD, if_pos (by omega)]
  have hin := pt_in hsig hf hn hP
  have hp0 := hin _ (List.getElem_mem h0)
  have w1 := MW.wbytes_le10 (m := t[0].f0.toNat) (by have := hp0.1; omega)
  have w2 := MW.wbytes_le10 (m := t.length) (by omega)
  have w3 := MW.wbytes_le10 (m := (dict t).length) (by omega)
  have hdb := flat_le (f := MBlob.bbytes) (c := 210) (dict t) (fun x hx => by
    have h1 : x.size ≤ 200 := strs_ok hP x (((mem_puts _).1 hx).resolve_left (by simp))
    have h2 := MW.wbytes_le10 (m := x.size) (by omega)
    rw [MBlob.bbytes_len]
    omega)
  have hpb := ptB_len (D := dict t) (by omega) hp0
  have hr := pay1 t ht (putsS (denc []) (strs t)) (by rw [hD]; omega) (by rw [hD]; exact hin) (t.length - 1) 1 (((((wbytes t[0].f0.toNat ++ wbytes t.length) ++ wbytes (dict t).length) ++ (dict t).flatMap MBlob.bbytes)) ++ ptB (dict t) t[0]) (by omega) (by omega) (by simp only [List.length_append]; omega)
  rw [hD] at hr
  have e : pay t = (((((wbytes t[0].f0.toNat ++ wbytes t.length) ++ wbytes (dict t).length) ++ (dict t).flatMap MBlob.bbytes)) ++ ptB (dict t) t[0]) ++ restB (dict t) t 1 := by
    obtain ⟨p, r, rfl⟩ : ∃ p r, t = p :: r := by
      cases t with
      | nil => simp at h0
      | cons p r => exact ⟨p, r, rfl⟩
    unfold pay tailB restB
    rw [dif_pos ⟨by omega, by simp⟩]
    simp [List.append_assoc]
  rw [e]
  have h1 : Ev (fun k => block_payload.l1 k t ((((wbytes t[0].f0.toNat ++ wbytes t.length) ++ wbytes (dict t).length) ++ (dict t).flatMap MBlob.bbytes)) t (t.length : Int) 0 (putsS (denc []) (strs t))) ((((((wbytes t[0].f0.toNat ++ wbytes t.length) ++ wbytes (dict t).length) ++ (dict t).flatMap MBlob.bbytes)) ++ ptB (dict t) t[0]) ++ restB (dict t) t 1) := by
    have hj := payj t 0 (by omega) t[0] (putsS (denc []) (strs t)) (by rw [hD]; omega) (by rw [hD]; exact hp0) _ ((((wbytes t[0].f0.toNat ++ wbytes t.length) ++ wbytes (dict t).length) ++ (dict t).flatMap MBlob.bbytes)) (by simp only [List.length_append]; omega) (by rw [hD]; exact hr)
    refine Ev.step (f := fun k => block_payload.j2 k t ((((wbytes t[0].f0.toNat ++ wbytes t.length) ++ wbytes (dict t).length) ++ (dict t).flatMap MBlob.bbytes)) t (t.length : Int) 0 (putsS (denc []) (strs t)) t[0].f0 t[0].f1) (fun k => ?_) hj
    simp only [block_payload.l1]
    have e0 : rd_T56 t 0 = t[0] := at_pt t 0 h0
    rw [if_pos (by omega), if_pos (by omega), if_pos (by omega), if_neg (by omega), e0]
  have h2 := pay0 t (putsS (denc []) (strs t)) (by rw [hD]; intro x hx; exact strs_ok hP x (((mem_puts _).1 hx).resolve_left (by simp))) (by rw [hD]; omega) _ (dict t).length 0 ((wbytes t[0].f0.toNat ++ wbytes t.length) ++ wbytes (dict t).length) (by rw [hD]; omega) (by simp only [List.length_append]; omega) (by rw [hD, List.drop_zero]; exact h1)
  unfold block_payload.f
  refine Ev.bind (of_ev t hf (by omega)) ?_
  rw [hD] at h2
  have e0 : rd_T56 t 0 = t[0] := at_pt t 0 h0
  have q1 := MW.put_eq [] t[0].f0.toNat (by simp) (by have := hp0.1; omega)
  rw [Int.toNat_of_nonneg hp0.1.1] at q1
  refine Ev.congr (fun k => ?_) h2
  simp only [hall, Option.bind_some]
  rw [if_pos (by omega), e0, q1]
  simp only [Option.bind_some, List.nil_append]
  rw [wu64 (x := (t.length : Int)) (by omega) (by omega), MW.put_eq _ t.length (by omega) (by omega)]
  simp only [Option.bind_some]
  rw [wu64 (x := ((dict t).length : Int)) (by omega) (by omega), MW.put_eq _ (dict t).length (by rw [List.length_append]; omega) (by omega)]
  rfl

/-! ### the calls -/
def bput (sig : List Pred) (t : List Pnt) : List Int × Int :=
  if t.length = 0 then ([], 1) else if (MTrace.tcheck sig t).1 = 0 then (if t.length > 1024 then ([], 6) else if (pay t).length > 4096 then ([], 6) else (pay t, 0)) else ([], (MTrace.tcheck sig t).1)
def FitsN (t : List Pnt) : Prop := FitsT t ∧ ∀ p ∈ t, ∀ e ∈ p.f1, ∀ a ∈ e.f1, -9223372036854775808 ≤ a.f1 ∧ a.f1 ≤ 9223372036854775807
theorem sig64 {sig : List Pred} (h : MSig.check sig = 0) : sig.length ≤ 64 := by
  unfold MSig.check at h
  split at h
  · cases h
  · omega
theorem bput_ev (sig : List Pred) (hs : MSig.Short sig) (t : List Pnt) (hf : FitsN t) : Ev (fun k => block_Put.f k sig t) (bput sig t) := by
  have hfit : MTrace.Fits t := hf.1.fits
  have hlt := hf.1.1
  unfold block_Put.f bput
  by_cases h0 : t.length = 0
  · rw [if_pos h0]
    refine Ev.congr (f := fun _ => some ([], 1)) (fun k => ?_) (Ev.now _)
    unfold block_whole.f
    rw [if_pos (by omega)]
    rfl
  · rw [if_neg h0]
    have hck := MTrace.tcheck_ev sig hs t hfit (by omega)
    by_cases hc : (MTrace.tcheck sig t).1 = 0
    · rw [if_pos hc]
      obtain ⟨k1, k2, k3⟩ := tcheck_ok hc
      by_cases hl : t.length > 1024
      · rw [if_pos hl]
        refine Ev.bind (a := ([], 6)) ?_ (Ev.congr (f := fun _ => some ([], 6)) (fun k => rfl) (Ev.now _))
        unfold block_whole.f
        refine Ev.congr (fun k => by rw [if_neg (by omega)]) (Ev.bind hck ?_)
        refine Ev.congr (f := fun _ => some ([], 6)) (fun k => ?_) (Ev.now _)
        rw [if_pos hc, if_pos (by omega)]
      · rw [if_neg hl]
        have hpay := payload_ev t sig (sig64 k1) hf.1 hf.2 (by omega) (by omega) k2
        refine Ev.bind (a := (pay t, 0)) ?_ ?_
        · unfold block_whole.f
          refine Ev.congr (fun k => by rw [if_neg (by omega)]) (Ev.bind hck ?_)
          refine Ev.congr (f := fun k => (block_payload.f k t).bind fun x => some (x, 0)) (fun k => ?_) (Ev.bind hpay (Ev.now _))
          rw [if_pos hc, if_neg (by omega)]
        · simp only [if_true]
          by_cases hb : (pay t).length > 4096
          · rw [if_pos hb]
            exact Ev.congr (f := fun _ => some ([], 6)) (fun k => by rw [if_pos (by omega)]) (Ev.now _)
          · rw [if_neg hb]
            exact Ev.congr (f := fun _ => some (pay t, 0)) (fun k => by rw [if_neg (by omega)]) (Ev.now _)
    · rw [if_neg hc]
      refine Ev.bind (a := ([], (MTrace.tcheck sig t).1)) ?_ (Ev.congr (f := fun _ => some ([], (MTrace.tcheck sig t).1)) (fun k => by rw [if_neg hc]) (Ev.now _))
      unfold block_whole.f
      refine Ev.congr (fun k => by rw [if_neg (by omega)]) (Ev.bind hck ?_)
      refine Ev.congr (f := fun _ => some ([], (MTrace.tcheck sig t).1)) (fun k => ?_) (Ev.now _)
      rw [if_neg hc]
end Go.Proofs.Ytmmfakdncjeoeaa.MBlock
