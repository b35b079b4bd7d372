/- TraceParts, plainly. -/
import Derived.Test.YtjfklfmfeghjnabMTraceCount
import Derived.Test.YtjfklfmfeghjnabPTx12
set_option linter.unusedVariables false
namespace Go.Proofs.Ytjfklfmfeghjnab.Pure
open Go.RowKit Go.Proofs.Ytjfklfmfeghjnab.PT Go.Proofs.Ytjfklfmfeghjnab.MTrace Go.Proofs.Ytjfklfmfeghjnab.MSig Go.Proofs.Ytjfklfmfeghjnab.MBase Go.Proofs.YtjfklfmfeghjnabW.PrintWords Go.Proofs.YtjfklfmfeghjnabW.PrintLast Go.Proofs.YtjfklfmfeghjnabW.PrintMore

theorem rdp (t : List Point) (i : Nat) (h : i < t.length) : rd_T44 t (i : Int) = t[i] := by rw [rd_pt]; simp [List.getD_eq_getElem?_getD, List.getElem?_eq_getElem h]
theorem wf_u16 {x : Int} (h : (Lit.int .u16 x).wf = true) : 0 ≤ x ∧ x < 65536 := by
  simp [Lit.wf, IntKind.min, IntKind.max, IntKind.signed, IntKind.bits] at h
  omega
/-! What a check tells, over the list itself. -/
def trl (sig : List Pred) : List Point → Nat → Int → Int × Int
  | [], _, _ => (0, 0)
  | p :: ps, i, ah => if ptc sig p ah = 0 then trl sig ps (i + 1) p.f0 else (ptc sig p ah, (i : Int))
theorem trc_trl (sig : List Pred) (t : List Point) : ∀ (n i : Nat) (ah : Int), n + i = t.length → trc sig t n i ah = trl sig (t.drop i) i ah
  | 0, i, ah => fun h => by rw [List.drop_eq_nil_of_le (by omega)]; rfl
  | n + 1, i, ah => fun h => by
    rw [List.drop_eq_getElem_cons (by omega : i < t.length)]
    simp only [trc, trl, rdp t i (by omega)]
    rw [trc_trl sig t n (i + 1) _ (by omega)]
theorem tcheck_trl (sig : List Pred) (t : List Point) : tcheck sig t = if check sig = 0 then trl sig t 0 0 else (check sig, 0) := by
  unfold tcheck
  rw [trc_trl sig t t.length 0 0 (by omega), List.drop_zero]
def lastT : List Point → Int → Int
  | [], ah => ah
  | p :: ps, _ => lastT ps p.f0
theorem trl_take (sig : List Pred) : ∀ (a b : List Point) (i : Nat) (ah : Int), (trl sig (a ++ b) i ah).1 = 0 → trl sig a i ah = (0, 0)
  | [], b, i, ah => fun _ => rfl
  | p :: ps, b, i, ah => fun h => by
    simp only [List.cons_append, trl] at h ⊢
    by_cases hp : ptc sig p ah = 0
    · rw [if_pos hp] at h ⊢; exact trl_take sig ps b _ _ h
    · rw [if_neg hp] at h; exact absurd h hp
theorem trl_rest (sig : List Pred) : ∀ (a b : List Point) (i : Nat) (ah : Int), (trl sig (a ++ b) i ah).1 = 0 → trl sig (a ++ b) i ah = trl sig b (i + a.length) (lastT a ah)
  | [], b, i, ah => fun _ => rfl
  | p :: ps, b, i, ah => fun h => by
    simp only [List.cons_append, trl] at h ⊢
    by_cases hp : ptc sig p ah = 0
    · rw [if_pos hp] at h ⊢
      rw [trl_rest sig ps b _ _ h, List.length_cons, Nat.add_assoc, Nat.add_comm 1]
      rfl
    · rw [if_neg hp] at h; exact absurd h hp
theorem trl_on (sig : List Pred) : ∀ (a b : List Point) (i : Nat) (ah : Int), (trl sig a i ah).1 = 0 → trl sig (a ++ b) i ah = trl sig b (i + a.length) (lastT a ah)
  | [], b, i, ah => fun _ => rfl
  | p :: ps, b, i, ah => fun h => by
    simp only [List.cons_append, trl] at h ⊢
    by_cases hp : ptc sig p ah = 0
    · rw [if_pos hp] at h ⊢
      rw [trl_on sig ps b _ _ h, List.length_cons, Nat.add_assoc, Nat.add_comm 1]
      rfl
    · rw [if_neg hp] at h; exact absurd h hp
theorem trl_zero (sig : List Pred) : ∀ (b : List Point) (i j : Nat) (ah : Int), (trl sig b i ah).1 = 0 → trl sig b j ah = (0, 0)
  | [], i, j, ah => fun _ => rfl
  | p :: ps, i, j, ah => fun h => by
    simp only [trl] at h ⊢
    by_cases hp : ptc sig p ah = 0
    · rw [if_pos hp] at h ⊢; exact trl_zero sig ps _ _ _ h
    · rw [if_neg hp] at h; exact absurd h hp
theorem trl_less (sig : List Pred) (b : List Point) (i j : Nat) (ah ah' : Int) (hle : ah' ≤ ah) (h : (trl sig b i ah).1 = 0) : trl sig b j ah' = (0, 0) := by
  cases b with
  | nil => rfl
  | cons p ps =>
    simp only [trl] at h ⊢
    by_cases hp : ptc sig p ah = 0
    · rw [if_pos hp] at h
      have hp' : ptc sig p ah' = 0 := by
        unfold ptc at hp ⊢
        by_cases hlt : p.f0 < ah
        · rw [if_pos hlt] at hp; exact absurd hp (by decide)
        · rw [if_neg hlt] at hp; rw [if_neg (by omega)]; exact hp
      rw [if_pos hp']
      exact trl_zero sig ps _ _ _ h
    · rw [if_neg hp] at h; exact absurd h hp
theorem lastT_ge : ∀ (a : List Point) (ah : Int), 0 ≤ ah → (∀ p ∈ a, 0 ≤ p.f0) → 0 ≤ lastT a ah
  | [], ah => fun h _ => h
  | p :: ps, ah => fun _ hp => lastT_ge ps p.f0 (hp p (List.mem_cons_self ..)) (fun q hq => hp q (List.mem_cons_of_mem _ hq))
theorem lastT_last : ∀ (a : List Point) (ah : Int) (h : a.length - 1 < a.length), lastT a ah = (a[a.length - 1]'h).f0
  | [], ah => fun h => absurd h (by simp)
  | [p], ah => fun _ => rfl
  | p :: q :: ps, ah => fun h => by
    rw [show lastT (p :: q :: ps) ah = lastT (q :: ps) p.f0 from rfl, lastT_last (q :: ps) p.f0 (by simp)]
    simp [List.length_cons]
theorem tcheck_take (sig : List Pred) (a b : List Point) (h : (tcheck sig (a ++ b)).1 = 0) : tcheck sig a = (0, 0) := by
  rw [tcheck_trl] at h ⊢
  by_cases hc : check sig = 0
  · rw [if_pos hc] at h ⊢; exact trl_take sig a b 0 0 h
  · rw [if_neg hc] at h; exact absurd h hc
theorem tcheck_drop (sig : List Pred) (a b : List Point) (hp : ∀ p ∈ a, 0 ≤ p.f0) (h : (tcheck sig (a ++ b)).1 = 0) : tcheck sig b = (0, 0) := by
  rw [tcheck_trl] at h ⊢
  by_cases hc : check sig = 0
  · rw [if_pos hc] at h ⊢
    rw [trl_rest sig a b 0 0 h] at h
    exact trl_less sig b _ 0 _ 0 (lastT_ge a 0 (Int.le_refl _) hp) h
  · rw [if_neg hc] at h; exact absurd h hc
theorem tcheck_more (sig : List Pred) (a : List Point) (p : Point) (hn : a.length - 1 < a.length) (hlt : p.f0 < (a[a.length - 1]'hn).f0) (h : (tcheck sig a).1 = 0) : tcheck sig (a ++ [p]) = (8, (a.length : Int)) := by
  rw [tcheck_trl] at h ⊢
  by_cases hc : check sig = 0
  · rw [if_pos hc] at h ⊢
    rw [trl_on sig a [p] 0 0 h, lastT_last a 0 hn]
    simp only [trl]
    have h8 : ptc sig p (a[a.length - 1]'hn).f0 = 8 := by unfold ptc; rw [if_pos hlt]
    rw [h8, if_neg (by decide), Nat.zero_add]
  · rw [if_neg hc] at h; exact absurd h hc
/-! Counts add up. -/
theorem wadd (x y : Int) : wrap64 (wrap64 x + y) = wrap64 (x + y) := by unfold wrap64; omega
theorem waddr (x y : Int) : wrap64 (x + wrap64 y) = wrap64 (x + y) := by unfold wrap64; omega
def sz (xs : List Arg) : Int := (xs.map (fun a => (a.f2.size : Int))).sum
theorem sum_w : ∀ (xs : List Arg) (b : Int), trace_sum (wrap64 b) xs = wrap64 (b + sz xs)
  | [], b => by simp [trace_sum, sz]
  | x :: xs, b => by
    have e : trace_sum (wrap64 b) (x :: xs) = trace_sum (wrap64 (wrap64 b + (x.f2.size : Int))) xs := rfl
    rw [e, wadd, sum_w xs, show sz (x :: xs) = (x.f2.size : Int) + sz xs from by simp [sz], Int.add_assoc]
def w3 (s : Int × Int × Int) : Int × Int × Int := (wrap64 s.1, wrap64 s.2.1, wrap64 s.2.2)
def s3 : List MTrace.Event → Int × Int × Int
  | [] => (0, 0, 0)
  | e :: es => (1 + (s3 es).1, (e.f1.length : Int) + (s3 es).2.1, sz e.f1 + (s3 es).2.2)
theorem tally_w : ∀ (es : List MTrace.Event) (s : Int × Int × Int), es.foldl tally1 (w3 s) = w3 (s.1 + (s3 es).1, s.2.1 + (s3 es).2.1, s.2.2 + (s3 es).2.2)
  | [], s => by simp [s3]
  | e :: es, s => by
    have h1 : tally1 (w3 s) e = w3 (s.1 + 1, s.2.1 + (e.f1.length : Int), s.2.2 + sz e.f1) := by
      simp only [tally1, w3, sum_w, wadd]
    rw [List.foldl_cons, h1, tally_w es]
    simp only [s3, Int.add_assoc]
theorem s3_append : ∀ (a b : List MTrace.Event), s3 (a ++ b) = ((s3 a).1 + (s3 b).1, (s3 a).2.1 + (s3 b).2.1, (s3 a).2.2 + (s3 b).2.2)
  | [], b => by simp [s3]
  | e :: es, b => by simp only [List.cons_append, s3, s3_append es b, Int.add_assoc]
theorem tally_s3 (es : List MTrace.Event) : trace_tally es = w3 (s3 es) := by
  rw [tally_eq]
  have h := tally_w es (0, 0, 0)
  rw [show w3 ((0, 0, 0) : Int × Int × Int) = (0, 0, 0) from by simp [w3, wrap64]] at h
  rw [h]
  simp
theorem tally_parts (a b : List Point) : (wrap64 ((trace_tally (trace_evs a)).1 + (trace_tally (trace_evs b)).1) = (trace_tally (trace_evs (a ++ b))).1) ∧ (wrap64 ((trace_tally (trace_evs a)).2.1 + (trace_tally (trace_evs b)).2.1) = (trace_tally (trace_evs (a ++ b))).2.1) ∧ (wrap64 ((trace_tally (trace_evs a)).2.2 + (trace_tally (trace_evs b)).2.2) = (trace_tally (trace_evs (a ++ b))).2.2) := by
  have e : trace_evs (a ++ b) = trace_evs a ++ trace_evs b := by simp [trace_evs]
  rw [e, tally_s3, tally_s3, tally_s3, s3_append]
  simp only [w3, wadd, waddr, and_self]
/-! What fits. -/
def PF (p : Point) : Prop := 0 ≤ p.f0 ∧ p.f0 < 18446744073709551616 ∧ p.f1.length < 9223372036854775807 ∧ ∀ j, j < p.f1.length → (rd_T61 p.f1 (j : Int)).f1.length < 9223372036854775807
theorem fits_of {t : List Point} (h : ∀ p ∈ t, PF p) : Fits t := by
  intro i hi
  rw [rdp t i hi]
  exact h _ (List.getElem_mem hi)
theorem great_far (m : Int) (t : List Point) (h1 : m < (t.length : Int)) (h0 : 0 ≤ m) (ht : (t.length : Int) < 4611686018427387904) (hp : ∀ p ∈ t, p.f1.length < 4611686018427387904) : Ev (fun k => tachographlaw12_Great.f k t m) true := by
  have hl : 0 < t.length := by omega
  have hq := hp t[0] (List.getElem_mem hl)
  refine Ev.step (f := fun _ => some true) (fun k => ?_) (Ev.now _)
  have e : rd_T44 t 0 = t[0] := rdp t 0 hl
  simp only [tachographlaw12_Great.f, tachographlaw12_Great.l0]
  rw [if_pos (by omega), if_pos (by omega), if_pos (by omega), e, w64 (by omega) (by omega), if_pos (by omega)]
theorem TraceParts : tachographlaw12_TraceParts.Pure := by
  intro l t a hl ht ha
  refine Ev.rounds ?_
  have hlen : l.length < 9223372036854775807 := by have := hl.2.1; omega
  have htl : t.length * 32 ≤ 140737488351232 := ht.2.1
  have hs : Short l := fun p hp => by have h : p.f0.size ≤ 140737488351232 := (hl.2.2 p hp).1; omega
  have hb : ∀ p ∈ t, p.f1.length * 32 ≤ 140737488351232 := fun p hp => (ht.2.2 p hp).2.2.1
  have hP : ∀ p ∈ t, PF p := by
    intro p hp
    obtain ⟨h1, h2⟩ := ht.2.2 p hp
    have h3 := wf_u64 h1
    refine ⟨h3.1, h3.2, by have := hb p hp; omega, fun j hj => ?_⟩
    have e2 : rd_T61 p.f1 (j : Int) = p.f1[j] := by rw [rd_e]; simp [List.getD_eq_getElem?_getD, List.getElem?_eq_getElem hj]
    rw [e2]
    obtain ⟨_, h4⟩ := h2.2.2 p.f1[j] (List.getElem_mem hj)
    have h : p.f1[j].f1.length * 32 ≤ 140737488351232 := h4.2.1
    omega
  have hf : Fits t := fits_of hP
  have hfx : Ev (fun k => (tachographlaw12_fixed.f k).bind fun t => some t) true := Ev.bind fixed12 (Ev.now _)
  have hj : Ev (fun k => tachographlaw12_TraceParts.j0 k l t a true) true :=
    Ev.step (f := fun k => (tachographlaw12_fixed.f k).bind fun t => some t) (fun k => by simp only [tachographlaw12_TraceParts.j0, if_true]) hfx
  unfold tachographlaw12_TraceParts.f
  refine Ev.bind (great_ev l hlen) ?_
  by_cases hg : great l = true
  · simp only [if_pos hg]
    exact hj
  simp only [if_neg hg]
  by_cases h3 : 3000 < t.length
  · exact Ev.bind (great_far 3000 t (by omega) (by decide) (by omega) (fun p hp => by have := hb p hp; omega)) hj
  obtain ⟨b, hgb⟩ := tgreat_ev 3000 t hf (by omega)
  refine Ev.bind hgb ?_
  cases b
  case true => exact hj
  have hau := wf_u16 ha
  have ew : wrap64 ((t.length : Int) + 1) = (t.length : Int) + 1 := w64 (by omega) (by omega)
  have ea : wrap64 a = a := w64 (by omega) (by omega)
  obtain ⟨q, hq, hqe⟩ : ∃ q : Nat, q ≤ t.length ∧ Int.tmod a ((t.length : Int) + 1) = (q : Int) := by
    have h1 : 0 ≤ Int.tmod a ((t.length : Int) + 1) := Int.tmod_nonneg _ hau.1
    have h2 : Int.tmod a ((t.length : Int) + 1) < (t.length : Int) + 1 := Int.tmod_lt_of_pos _ (by omega)
    exact ⟨(Int.tmod a ((t.length : Int) + 1)).toNat, by omega, by omega⟩
  have hcut : t.take q ++ t.drop q = t := List.take_append_drop q t
  have fT : Fits (t.take q) := fits_of (fun p hp => hP p (List.mem_of_mem_take hp))
  have fD : Fits (t.drop q) := fits_of (fun p hp => hP p (List.mem_of_mem_drop hp))
  have ct := tcheck_ev l hs t hf (by omega)
  refine Ev.step (f := fun k => (trace_Check.f k l t).bind fun bt182 => (if bt182.1 = 0 then ((trace_Check.f k l (t.take q)).bind fun bt189 => ((trace_Check.f k l (t.drop q)).bind fun bt195 => ((trace_Count.f (t.take q)).bind fun bt201 => ((trace_Count.f (t.drop q)).bind fun bt208 => ((trace_Count.f t).bind fun bt211 => (if bt189.1 = 0 then (if bt195.1 = 0 then (if (wrap64 (bt201.1 + bt208.1)) = bt211.1 then (if (wrap64 (bt201.2.1 + bt208.2.1)) = bt211.2.1 then (tachographlaw12_TraceParts.j1 k l t ((wrap64 (bt201.2.2 + bt208.2.2)) != bt211.2.2)) else (tachographlaw12_TraceParts.j1 k l t true)) else (tachographlaw12_TraceParts.j1 k l t true)) else (tachographlaw12_TraceParts.j1 k l t true)) else (tachographlaw12_TraceParts.j1 k l t true))))))) else ((tachographlaw12_fixed.f k).bind fun t184 => (some t184)))) (fun k => ?_) ?_
  · simp only [tachographlaw12_TraceParts.j0, ew, ea, hqe, Int.toNat_natCast, Bool.false_eq_true, if_false]
    rw [if_neg (show ¬ ((t.length : Int) + 1 = 0) by omega), if_pos (show (0 : Int) ≤ (q : Int) by omega), if_pos (show (q : Int) ≤ (t.length : Int) by omega)]
  refine Ev.bind ct ?_
  by_cases hc : ¬ (tcheck l t).1 = 0
  · simp only [if_neg hc]; exact hfx
  replace hc := Decidable.not_not.1 hc
  simp only [if_pos hc]
  have hc2 : (tcheck l (t.take q ++ t.drop q)).1 = 0 := by rw [hcut]; exact hc
  have cT := tcheck_ev l hs (t.take q) fT (by rw [List.length_take]; omega)
  have cD := tcheck_ev l hs (t.drop q) fD (by rw [List.length_drop]; omega)
  rw [tcheck_take l _ _ hc2] at cT
  rw [tcheck_drop l _ _ (fun p hp => (hP p (List.mem_of_mem_take hp)).1) hc2] at cD
  refine Ev.bind cT (Ev.bind cD ?_)
  have hsum := tally_parts (t.take q) (t.drop q)
  rw [hcut] at hsum
  simp only [trace_Count.f, Option.bind_some, if_true, hsum.1, hsum.2.1, hsum.2.2, bne_self_eq_false]
  -- the later part
  have hj2 : Ev (fun k => tachographlaw12_TraceParts.j2 k l t true) true :=
    Ev.step (f := fun k => (tachographlaw12_fixed.f k).bind fun t => some t) (fun k => by simp only [tachographlaw12_TraceParts.j2, if_true]) hfx
  by_cases h0 : t.length = 0
  · refine Ev.step (f := fun k => tachographlaw12_TraceParts.j2 k l t true) (fun k => ?_) hj2
    simp only [tachographlaw12_TraceParts.j1, Bool.false_eq_true, if_false]
    rw [if_pos (by omega)]
  have e1 : wrap64 ((t.length : Int) - 1) = ((t.length - 1 : Nat) : Int) := by rw [w64 (by omega) (by omega)]; omega
  have hlt : t.length - 1 < t.length := by omega
  have hF := hP _ (List.getElem_mem hlt)
  refine Ev.step (f := fun k => tachographlaw12_TraceParts.j2 k l t (t[t.length - 1].f0 == 0)) (fun k => ?_) ?_
  · simp only [tachographlaw12_TraceParts.j1, Bool.false_eq_true, if_false, e1, rdp t _ hlt]
    rw [if_neg (by omega), if_pos (by omega), if_pos (by omega)]
  by_cases hz : t[t.length - 1].f0 = 0
  · rw [show (t[t.length - 1].f0 == 0) = true from beq_iff_eq.mpr hz]; exact hj2
  rw [show (t[t.length - 1].f0 == 0) = false from beq_eq_false_iff_ne.mpr hz]
  have ewu : IntKind.u64.wrap (t[t.length - 1].f0 - 1) = t[t.length - 1].f0 - 1 := wu64 (by have := hF.1; omega) (by have := hF.2.1; omega)
  have hPn : PF (⟨t[t.length - 1].f0 - 1, []⟩ : Point) := ⟨by have := hF.1; show (0 : Int) ≤ t[t.length - 1].f0 - 1; omega, by have := hF.2.1; show t[t.length - 1].f0 - 1 < (18446744073709551616 : Int); omega, by show 0 < 9223372036854775807; omega, fun j hj => absurd hj (Nat.not_lt_zero j)⟩
  have fN : Fits (t ++ [(⟨t[t.length - 1].f0 - 1, []⟩ : Point)]) := fits_of (fun p hp => by
    rcases List.mem_append.1 hp with hp | hp
    · exact hP p hp
    · rw [List.mem_singleton.1 hp]; exact hPn)
  have cN := tcheck_ev l hs _ fN (by rw [List.length_append, List.length_singleton]; omega)
  rw [tcheck_more l t _ hlt (by show t[t.length - 1].f0 - 1 < t[t.length - 1].f0; omega) hc] at cN
  refine Ev.step (f := fun k => (trace_Check.f k l (t ++ [(⟨t[t.length - 1].f0 - 1, []⟩ : Point)])).bind fun bt220 => ((tachographlaw12_fixed.f k).bind fun t222 => (if t222 = true then (if bt220.1 = 8 then (some (bt220.2 == (t.length : Int))) else (some false)) else (some false)))) (fun k => ?_) ?_
  · simp only [tachographlaw12_TraceParts.j2, Bool.false_eq_true, if_false, e1, rdp t _ hlt, ewu]
    rw [if_pos (by omega), if_pos (by omega), if_pos (by omega)]
  refine Ev.bind cN (Ev.bind fixed12 ?_)
  simp only [if_true, beq_self_eq_true]
  exact Ev.now _
end Go.Proofs.Ytjfklfmfeghjnab.Pure
