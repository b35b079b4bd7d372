/- Proved: tachographlaw13.DictOf answers true at all points of bulk at most 1048576: the dictionary of any points, and how many events of each shape any have, are the document's; there and back its numbers are the same. -/
import Derived.Test.YtjfklfmfeghjnabMDict
import Derived.Test.YtjfklfmfeghjnabRuns
import Derived.Test.YtjfklfmfeghjnabPDx1
import Derived.Test.YtjfklfmfeghjnabPDx3
import Derived.Test.YtjfklfmfeghjnabPDx4
set_option linter.unusedVariables false
set_option linter.unusedSimpArgs false
namespace Go.Proofs.Ytjfklfmfeghjnab.Pure
open Go.RowKit Go.Proofs.Ytjfklfmfeghjnab.PD Go.Proofs.Ytjfklfmfeghjnab.MPts Go.Proofs.Ytjfklfmfeghjnab.MDict Go.Proofs.Ytjfklfmfeghjnab.MBase Go.Proofs.YtjfklfmfeghjnabAid Go.Proofs.YtjfklfmfeghjnabW.PrintWords Go.Proofs.YtjfklfmfeghjnabW.PrintLast Go.Proofs.YtjfklfmfeghjnabW.PrintMore

theorem fixed13 : tachographlaw13_fixed.f = some true := by kernel_rfl

/-! ### how many events of each shape -/
def shp (e : Evt) : Int × Int := (e.f0, (e.f1.length : Int))
/-- The shapes, each once, and how often each one stands in l. -/
def cnts (m l : List (Int × Int)) : List Int := m.map fun x => (l.count x : Int)
theorem cnts_len (m l : List (Int × Int)) : (cnts m l).length = m.length := by simp [cnts]
theorem cnts_old {m l : List (Int × Int)} {x : Int × Int} (hn : m.Nodup) (hx : x ∈ m) : (cnts m l).set (m.idxOf x) ((l.count x : Int) + 1) = cnts m (l ++ [x]) := by
  have hi := List.idxOf_lt_length_of_mem hx
  refine List.ext_getElem (by simp [cnts]) (fun j h1 h2 => ?_)
  simp only [cnts, List.length_map, List.length_set] at h1
  rw [List.getElem_set]
  by_cases h : m.idxOf x = j
  · subst h
    rw [if_pos rfl]
    simp [cnts]
  · rw [if_neg h]
    have hne : ¬ x = m[j] := fun e => h (by rw [e]; exact idx_at m j h1 hn)
    simp [cnts, List.count_cons, List.count_append, hne]
theorem cnts_new {m l : List (Int × Int)} {x : Int × Int} (hx : x ∉ m) (hl : x ∉ l) : (cnts m l ++ [0]).set m.length ((0 : Int) + 1) = cnts (m ++ [x]) (l ++ [x]) := by
  refine List.ext_getElem (by simp [cnts]) (fun j h1 h2 => ?_)
  simp only [List.length_set, List.length_append, cnts_len, List.length_singleton] at h1
  rw [List.getElem_set]
  by_cases h : m.length = j
  · subst h
    rw [if_pos rfl]
    simp [cnts, List.count_eq_zero_of_not_mem hl]
  · rw [if_neg h]
    have hj : j < m.length := by omega
    have hne : ¬ x = m[j] := fun e => hx (e ▸ List.getElem_mem hj)
    rw [List.getElem_append_left (by rw [cnts_len]; exact hj)]
    have e2 : (cnts (m ++ [x]) (l ++ [x]))[j] = ((l ++ [x]).count m[j] : Int) := by simp only [cnts, List.getElem_map, List.getElem_append_left hj]
    rw [e2]
    simp only [cnts, List.getElem_map]
    rw [List.count_append, show [x].count m[j] = 0 from by simp [List.count_cons, hne]]
    rfl
theorem runs_from (l : List Evt) (hl : l.length < 8796093022208) (hf : FitsE l) : ∀ (d i : Nat) (m : List (Int × Int)), d + i = l.length → m = puts [] ((l.take i).map shp) →
    Ev (fun k => dict_Runs.l0 k (cnts m ((l.take i).map shp)) l (l.length : Int) (i : Int) m) (cnts (puts [] (l.map shp)) (l.map shp))
  | 0, i, m => fun hd hm => by
    subst hm
    rw [List.take_of_length_le (by omega)]
    refine Ev.step (f := fun _ => some (cnts (puts [] (l.map shp)) (l.map shp))) (fun k => ?_) (Ev.now _)
    simp only [dict_Runs.l0]
    rw [if_neg (by omega)]
  | d + 1, i, m => fun hd hm => by
    have htk : (l.take (i + 1)).map shp = (l.take i).map shp ++ [shp l[i]] := by rw [List.take_succ_eq_append_getElem (by omega), List.map_append]; rfl
    have hnd : m.Nodup := by rw [hm]; exact puts_nodup _ List.nodup_nil
    have hml : m.length ≤ i := by
      rw [hm]
      have := puts_len ((l.take i).map shp) []
      simp only [List.length_nil, List.length_map, List.length_take] at this
      omega
    have hmem : ∀ x, x ∈ m ↔ x ∈ (l.take i).map shp := fun x => by rw [hm, mem_puts]; simp
    obtain ⟨hr, hx, _⟩ := hf l[i] (List.getElem_mem _)
    have hr1 : i64r l[i].f0 := hr
    have hr2 : i64r (l[i].f1.length : Int) := by unfold i64r; omega
    have hlook : rlook m l[i].f0 (l[i].f1.length : Int) = some ((if shp l[i] ∈ m then (m.idxOf (shp l[i]) : Int) else 0), decide (shp l[i] ∈ m), m) := by unfold rlook; rw [if_pos ⟨hr1, hr2⟩]; rfl
    have hcnt : ∀ x, (((l.take i).map shp).count x : Int) ≤ i := fun x => by
      have := List.count_le_length (a := x) (l := (l.take i).map shp)
      simp only [List.length_map, List.length_take] at this
      omega
    by_cases hin : shp l[i] ∈ m
    · have hlt := List.idxOf_lt_length_of_mem hin
      have hc := cnts_old (l := (l.take i).map shp) hnd hin
      rw [← htk] at hc
      have ih := runs_from l hl hf d (i + 1) m (by omega) (by rw [htk, puts_app, ← hm]; exact (if_pos hin).symm)
      refine Ev.step (f := fun k => dict_Runs.l0 k (cnts m ((l.take (i + 1)).map shp)) l (l.length : Int) ((i + 1 : Nat) : Int) m) (fun k => ?_) ih
      simp only [dict_Runs.l0]
      rw [if_pos (by omega), if_pos (by omega), if_pos (by omega), at_e l i (by omega), hlook]
      simp only [Option.bind_some, if_pos hin, decide_eq_true hin, if_true]
      have hrd : rd (cnts m ((l.take i).map shp)) ((m.idxOf (shp l[i]) : Nat) : Int) = (((l.take i).map shp).count (shp l[i]) : Int) := by
        rw [at_i _ _ (by rw [cnts_len]; exact hlt)]
        simp only [cnts, List.getElem_map, List.getElem_idxOf hlt]
      have hc2 := hcnt (shp l[i])
      rw [if_pos (by omega), if_pos (by rw [cnts_len]; omega), hrd, w64 (x := (((l.take i).map shp).count (shp l[i]) : Int) + 1) (by omega) (by omega), w64 (x := (i : Int) + 1) (by omega) (by omega), Int.toNat_natCast, hc]
      rfl
    · have hnl : shp l[i] ∉ (l.take i).map shp := fun h => hin ((hmem _).2 h)
      have hc := cnts_new hin hnl
      rw [← htk] at hc
      have ih := runs_from l hl hf d (i + 1) (m ++ [shp l[i]]) (by omega) (by rw [htk, puts_app, ← hm]; exact (if_neg hin).symm)
      refine Ev.step (f := fun k => dict_Runs.l0 k (cnts (m ++ [shp l[i]]) ((l.take (i + 1)).map shp)) l (l.length : Int) ((i + 1 : Nat) : Int) (m ++ [shp l[i]])) (fun k => ?_) ih
      have hput : rput m l[i].f0 (l[i].f1.length : Int) ((cnts m ((l.take i).map shp)).length : Int) = some (m ++ [shp l[i]]) := by unfold rput; rw [if_pos ⟨hr1, hr2, hin, by rw [cnts_len], by omega⟩]; rfl
      simp only [dict_Runs.l0]
      rw [if_pos (by omega), if_pos (by omega), if_pos (by omega), at_e l i (by omega), hlook]
      simp only [Option.bind_some, decide_eq_false hin, Bool.false_eq_true, if_false]
      rw [if_pos (by rw [cnts_len]; omega), hput, Option.bind_some, if_pos (by omega), if_pos (by rw [List.length_append, List.length_singleton]; omega), w64 (x := (i : Int) + 1) (by omega) (by omega), Int.toNat_natCast]
      have hrd : rd (cnts m ((l.take i).map shp) ++ [0]) ((cnts m ((l.take i).map shp)).length : Int) = 0 := by
        rw [at_i _ _ (by simp)]
        simp
      rw [hrd, w64 (x := (0 : Int) + 1) (by omega) (by omega), cnts_len, hc]
      rfl
theorem runs_ev (l : List Evt) (hl : l.length < 8796093022208) (hf : FitsE l) : Ev (fun k => dict_Runs.f k l) (cnts (puts [] (l.map shp)) (l.map shp)) := by
  unfold dict_Runs.f
  simp only [Option.bind_some]
  exact runs_from l hl hf l.length 0 [] (by omega) rfl
/-- The reference's inner loop: how often, and whether for the first time. -/
theorem rruns1 (l : List Evt) (hl : l.length < 8796093022208) (i : Nat) (hi : i < l.length) (out v : List Int) : ∀ (d q : Nat), d + q = l.length →
    Ev (fun k => if (decide (shp l[i] ∈ (l.take i).map shp)) = true then tachographref13_Runs.l0 k l out ((i + 1 : Nat) : Int) else if out.length < 17592186044416 then tachographref13_Runs.l0 k l (out ++ [((l.map shp).count (shp l[i]) : Int)]) ((i + 1 : Nat) : Int) else none) v →
    Ev (fun k => tachographref13_Runs.l1 k l out (i : Int) (((l.take q).map shp).count (shp l[i]) : Int) (!decide (shp l[i] ∈ (l.take (min q i)).map shp)) (q : Int)) v
  | 0, q => fun hd hv => by
    have hqi : min q i = i := by omega
    rw [List.take_of_length_le (by omega : l.length ≤ q), hqi]
    refine Ev.step (f := fun k => if (decide (shp l[i] ∈ (l.take i).map shp)) = true then tachographref13_Runs.l0 k l out ((i + 1 : Nat) : Int) else if out.length < 17592186044416 then tachographref13_Runs.l0 k l (out ++ [((l.map shp).count (shp l[i]) : Int)]) ((i + 1 : Nat) : Int) else none) (fun k => ?_) hv
    simp only [tachographref13_Runs.l1]
    rw [if_neg (by omega), w64 (by omega) (by omega)]
    cases decide (shp l[i] ∈ (l.take i).map shp) <;> rfl
  | d + 1, q => fun hd hv => by
    have ih := rruns1 l hl i hi out v d (q + 1) (by omega) hv
    have htk : (l.take (q + 1)).map shp = (l.take q).map shp ++ [shp (l[q]'(by omega))] := by rw [List.take_succ_eq_append_getElem (by omega), List.map_append]; rfl
    have hcnt : (((l.take q).map shp).count (shp l[i]) : Int) ≤ q := by
      have := List.count_le_length (a := shp l[i]) (l := (l.take q).map shp)
      simp only [List.length_map, List.length_take] at this
      omega
    refine Ev.step (f := fun k => tachographref13_Runs.l1 k l out (i : Int) (((l.take (q + 1)).map shp).count (shp l[i]) : Int) (!decide (shp l[i] ∈ (l.take (min (q + 1) i)).map shp)) ((q + 1 : Nat) : Int)) (fun k => ?_) ih
    simp only [tachographref13_Runs.l1]
    rw [if_pos (by omega), if_pos (by omega), if_pos (by omega), if_pos (by omega), at_e l q (by omega), at_e l i hi, w64 (x := (q : Int) + 1) (by omega) (by omega), w64 (x := (((l.take q).map shp).count (shp l[i]) : Int) + 1) (by omega) (by omega), htk, List.count_append]
    by_cases hsame : shp (l[q]'(by omega)) = shp l[i]
    · have e0 : (l[q]'(by omega)).f0 = l[i].f0 := congrArg Prod.fst hsame
      have e1 : ((l[q]'(by omega)).f1.length : Int) = (l[i].f1.length : Int) := congrArg Prod.snd hsame
      have hc1 : ((((l.take q).map shp).count (shp l[i]) + [shp (l[q]'(by omega))].count (shp l[i]) : Nat) : Int) = (((l.take q).map shp).count (shp l[i]) : Int) + 1 := by rw [hsame]; simp
      rw [if_pos e0, if_pos e1, hc1]
      by_cases hqi : q < i
      · have hmin : min q i = q := by omega
        have hmin1 : min (q + 1) i = q + 1 := by omega
        have hmem : shp l[i] ∈ (l.take (q + 1)).map shp := by rw [htk, hsame]; simp
        have hdq : decide ((q : Int) ≥ (i : Int)) = false := decide_eq_false (by omega)
        rw [hmin, hmin1, decide_eq_true hmem, hdq]
        cases decide (shp l[i] ∈ (l.take q).map shp) <;> rfl
      · have hmin : min q i = i := by omega
        have hmin1 : min (q + 1) i = i := by omega
        have hdq : decide ((q : Int) ≥ (i : Int)) = true := decide_eq_true (by omega)
        rw [hmin, hmin1, hdq]
        cases decide (shp l[i] ∈ (l.take i).map shp) <;> rfl
    · have hc0 : ((((l.take q).map shp).count (shp l[i]) + [shp (l[q]'(by omega))].count (shp l[i]) : Nat) : Int) = (((l.take q).map shp).count (shp l[i]) : Int) := by simp [List.count_cons, hsame]
      have hdec : decide (shp l[i] ∈ (l.take (min (q + 1) i)).map shp) = decide (shp l[i] ∈ (l.take (min q i)).map shp) := by
        by_cases hqi : q < i
        · have hmin : min q i = q := by omega
          have hmin1 : min (q + 1) i = q + 1 := by omega
          rw [hmin, hmin1, htk]
          refine decide_eq_decide.2 ⟨fun h => ?_, fun h => List.mem_append_left _ h⟩
          rcases List.mem_append.1 h with h | h
          · exact h
          · exact absurd (List.mem_singleton.1 h).symm hsame
        · have hmin : min q i = i := by omega
          have hmin1 : min (q + 1) i = i := by omega
          rw [hmin, hmin1]
      rw [hc0, hdec]
      by_cases e0 : (l[q]'(by omega)).f0 = l[i].f0
      · rw [if_pos e0, if_neg (fun e1 : ((l[q]'(by omega)).f1.length : Int) = (l[i].f1.length : Int) => hsame (Prod.ext e0 e1))]
        rfl
      · rw [if_neg e0]
        rfl
theorem rruns0 (l : List Evt) (hl : l.length < 8796093022208) : ∀ (d i : Nat) (m : List (Int × Int)), d + i = l.length → m = puts [] ((l.take i).map shp) → Ev (fun k => tachographref13_Runs.l0 k l (cnts m (l.map shp)) (i : Int)) (cnts (puts [] (l.map shp)) (l.map shp))
  | 0, i, m => fun hd hm => by
    subst hm
    rw [List.take_of_length_le (by omega)]
    refine Ev.step (f := fun _ => some (cnts (puts [] (l.map shp)) (l.map shp))) (fun k => ?_) (Ev.now _)
    simp only [tachographref13_Runs.l0]
    rw [if_neg (by omega)]
  | d + 1, i, m => fun hd hm => by
    have htk : (l.take (i + 1)).map shp = (l.take i).map shp ++ [shp l[i]] := by rw [List.take_succ_eq_append_getElem (by omega), List.map_append]; rfl
    have hml : m.length ≤ i := by
      rw [hm]
      have := puts_len ((l.take i).map shp) []
      simp only [List.length_nil, List.length_map, List.length_take] at this
      omega
    have hmem : shp l[i] ∈ m ↔ shp l[i] ∈ (l.take i).map shp := by rw [hm, mem_puts]; simp
    have h1 : Ev (fun k => if (decide (shp l[i] ∈ (l.take i).map shp)) = true then tachographref13_Runs.l0 k l (cnts m (l.map shp)) ((i + 1 : Nat) : Int) else if (cnts m (l.map shp)).length < 17592186044416 then tachographref13_Runs.l0 k l (cnts m (l.map shp) ++ [((l.map shp).count (shp l[i]) : Int)]) ((i + 1 : Nat) : Int) else none) (cnts (puts [] (l.map shp)) (l.map shp)) := by
      by_cases hin : shp l[i] ∈ m
      · have ih := rruns0 l hl d (i + 1) m (by omega) (by rw [htk, puts_app, ← hm]; exact (if_pos hin).symm)
        exact Ev.congr (fun k => by rw [if_pos (decide_eq_true (hmem.1 hin))]) ih
      · have ih := rruns0 l hl d (i + 1) (m ++ [shp l[i]]) (by omega) (by rw [htk, puts_app, ← hm]; exact (if_neg hin).symm)
        refine Ev.congr (fun k => ?_) ih
        rw [if_neg (by rw [decide_eq_true_eq]; exact fun h => hin (hmem.2 h)), if_pos (by rw [cnts_len]; omega)]
        simp only [cnts, List.map_append, List.map_cons, List.map_nil]
    have h2 := rruns1 l hl i (by omega) (cnts m (l.map shp)) _ l.length 0 (by omega) h1
    refine Ev.step (f := fun k => tachographref13_Runs.l1 k l (cnts m (l.map shp)) (i : Int) 0 true 0) (fun k => ?_) (Ev.congr (fun k => ?_) h2)
    · simp only [tachographref13_Runs.l0]
      rw [if_pos (by omega)]
    · simp
theorem rruns_ev (l : List Evt) (hl : l.length < 8796093022208) : Ev (fun k => tachographref13_Runs.f k l) (cnts (puts [] (l.map shp)) (l.map shp)) := rruns0 l hl l.length 0 [] (by omega) rfl
theorem sum_zero (m : List (Int × Int)) : (m.map fun _ => 0).sum = 0 := by
  induction m with
  | nil => rfl
  | cons a r ih => simp only [List.map_cons, List.sum_cons, ih]
theorem sum_more (y : Int × Int) (l : List (Int × Int)) : ∀ m : List (Int × Int), (m.map fun x => (y :: l).count x).sum = (m.map fun x => l.count x).sum + (m.map fun x => if x = y then 1 else 0).sum
  | [] => rfl
  | a :: r => by
    have ih := sum_more y l r
    simp only [List.map_cons, List.sum_cons]
    rw [ih, List.count_cons]
    by_cases e : a = y
    · subst e
      rw [if_pos (beq_self_eq_true a), if_pos rfl]
      omega
    · rw [if_neg e, if_neg (by simpa using (fun h => e h.symm))]
      omega
theorem sum_none (y : Int × Int) : ∀ m : List (Int × Int), y ∉ m → (m.map fun x => if x = y then 1 else 0).sum = 0
  | [], _ => rfl
  | a :: r, h => by
    simp only [List.map_cons, List.sum_cons]
    rw [if_neg (fun e => h (by rw [← e]; exact List.mem_cons_self)), sum_none y r (fun hx => h (List.mem_cons_of_mem _ hx))]
theorem sum_one (y : Int × Int) : ∀ m : List (Int × Int), m.Nodup → y ∈ m → (m.map fun x => if x = y then 1 else 0).sum = 1
  | [], _, h => by cases h
  | a :: r, hn, h => by
    obtain ⟨ha, hr⟩ := List.nodup_cons.1 hn
    simp only [List.map_cons, List.sum_cons]
    by_cases e : a = y
    · subst e
      rw [if_pos rfl, sum_none a r ha]
    · rw [if_neg e, sum_one y r hr ((List.mem_cons.1 h).resolve_left (fun h => e h.symm))]
theorem count_sum : ∀ (l m : List (Int × Int)), m.Nodup → (∀ x ∈ l, x ∈ m) → (m.map fun x => l.count x).sum = l.length
  | [], m => fun _ _ => sum_zero m
  | y :: l, m => fun hn h => by rw [sum_more, count_sum l m hn (fun x hx => h x (List.mem_cons_of_mem _ hx)), sum_one y m hn (h y List.mem_cons_self), List.length_cons]

theorem same_from (a : List ByteArray) (ha : a.length < 9223372036854775807) : ∀ (d i : Nat), d + i = a.length → Ev (fun k => tachographref02_Same.l0 k a a (i : Int)) true
  | 0, i => fun hd => by
    refine Ev.step (f := fun _ => some true) (fun k => ?_) (Ev.now _)
    simp only [tachographref02_Same.l0]
    rw [if_neg (by omega)]
  | d + 1, i => fun hd => by
    refine Ev.step (f := fun k => tachographref02_Same.l0 k a a ((i + 1 : Nat) : Int)) (fun k => ?_) (same_from a ha d (i + 1) (by omega))
    simp only [tachographref02_Same.l0]
    rw [if_pos (by omega), if_pos (by omega), if_pos (by omega), if_pos trivial, w64 (by omega) (by omega)]
    rfl
theorem same_ev (a : List ByteArray) (ha : a.length < 9223372036854775807) : Ev (fun k => tachographref02_Same.f k a a) true := by
  unfold tachographref02_Same.f
  simp only [if_true]
  exact same_from a ha a.length 0 (by omega)

def intsum (l : List Int) : Int := l.sum
theorem cnts_sum (m l : List (Int × Int)) : (cnts m l).sum = (((m.map fun x => l.count x).sum : Nat) : Int) := by
  induction m with
  | nil => rfl
  | cons a r ih => simp only [cnts, List.map_cons, List.sum_cons] at ih ⊢; rw [ih]; omega
theorem law2 (t : List Pnt) (i : Nat) (hi : i < t.length) (p : Pnt) (hp : p.f1.length < 8796093022208) (c : List Int) (hc : c.length < 9223372036854775807) (h1 : ∀ x ∈ c, 1 ≤ x) (hs : c.sum = (p.f1.length : Int))
    (hv : Ev (fun k => tachographlaw13_DictOf.l1 k t (t.length : Int) ((i + 1 : Nat) : Int)) true) (ht : t.length < 8796093022208) : ∀ (d j : Nat), d + j = c.length → Ev (fun k => tachographlaw13_DictOf.l2 k c c ((c.take j).sum) t (t.length : Int) (i : Int) (c.length : Int) (j : Int) p.f0 p.f1) true
  | 0, j => fun hd => by
    rw [List.take_of_length_le (by omega), hs]
    refine Ev.step (f := fun k => tachographlaw13_DictOf.l1 k t (t.length : Int) ((i + 1 : Nat) : Int)) (fun k => ?_) hv
    simp only [tachographlaw13_DictOf.l2]
    rw [if_neg (by omega), if_pos trivial, w64 (by omega) (by omega)]
    rfl
  | d + 1, j => fun hd => by
    have ih := law2 t i hi p hp c hc h1 hs hv ht d (j + 1) (by omega)
    have hpos : ∀ (l : List Int), (∀ x ∈ l, 1 ≤ x) → 0 ≤ l.sum := fun l => by
      induction l with
      | nil => intro _; simp
      | cons a r ih => intro h; have h3 := h a List.mem_cons_self; have h4 := ih (fun x hx => h x (List.mem_cons_of_mem _ hx)); simp only [List.sum_cons]; omega
    have e1 : (c.take (j + 1)).sum = (c.take j).sum + c[j] := by rw [List.take_succ_eq_append_getElem (by omega), List.sum_append]; simp
    have e2 : c.sum = (c.take (j + 1)).sum + (c.drop (j + 1)).sum := by rw [← List.sum_append, List.take_append_drop]
    have e3 := hpos (c.drop (j + 1)) (fun x hx => h1 x (List.mem_of_mem_drop hx))
    have e4 := hpos (c.take j) (fun x hx => h1 x (List.mem_of_mem_take hx))
    have e5 := h1 c[j] (List.getElem_mem _)
    refine Ev.step (f := fun k => tachographlaw13_DictOf.l2 k c c ((c.take (j + 1)).sum) t (t.length : Int) (i : Int) (c.length : Int) ((j + 1 : Nat) : Int) p.f0 p.f1) (fun k => ?_) ih
    simp only [tachographlaw13_DictOf.l2]
    rw [if_pos (by omega), if_pos (by omega), if_pos (by omega), if_pos (by omega), if_pos trivial, at_i c j (by omega), if_neg (by omega), ← e1, w64 (x := (c.take (j + 1)).sum) (by omega) (by omega), w64 (x := (j : Int) + 1) (by omega) (by omega)]
    rfl
theorem law1 (t : List Pnt) (ht : FitsT t) : ∀ (d i : Nat), d + i = t.length → Ev (fun k => tachographlaw13_DictOf.l1 k t (t.length : Int) (i : Int)) true
  | 0, i => fun hd => by
    refine Ev.step (f := fun _ => some true) (fun k => ?_) (Ev.now _)
    simp only [tachographlaw13_DictOf.l1]
    rw [if_neg (by omega), fixed13]
    rfl
  | d + 1, i => fun hd => by
    have ih := law1 t ht d (i + 1) (by omega)
    obtain ⟨_, h2, h3⟩ := ht.2 t[i] (List.getElem_mem _)
    have hm := puts_len (t[i].f1.map shp) []
    simp only [List.length_nil, List.length_map, Nat.zero_add] at hm
    have hnd : (puts [] (t[i].f1.map shp)).Nodup := puts_nodup _ List.nodup_nil
    have hin : ∀ x, x ∈ puts [] (t[i].f1.map shp) ↔ x ∈ t[i].f1.map shp := fun x => by rw [mem_puts]; simp
    have hl2 := law2 t i (by omega) t[i] h2 (cnts (puts [] (t[i].f1.map shp)) (t[i].f1.map shp)) (by rw [cnts_len]; omega)
      (fun x hx => by
        obtain ⟨y, hy, rfl⟩ := List.mem_map.1 hx
        have := List.count_pos_iff.2 ((hin y).1 hy)
        omega)
      (by rw [cnts_sum, count_sum _ _ hnd (fun x hx => (hin x).2 hx), List.length_map]) ih ht.1 _ 0 rfl
    refine Ev.step (f := fun k => (dict_Runs.f k t[i].f1).bind fun t192 => ((tachographref13_Runs.f k t[i].f1).bind fun t195 => (if (t192.length : Int) = (t195.length : Int) then (tachographlaw13_DictOf.l2 k t192 t195 0 t (t.length : Int) (i : Int) (t192.length : Int) 0 t[i].f0 t[i].f1) else (some false)))) (fun k => ?_) (Ev.bind (runs_ev t[i].f1 h2 h3) (Ev.bind (rruns_ev t[i].f1 h2) ?_))
    · simp only [tachographlaw13_DictOf.l1]
      rw [if_pos (by omega), if_pos (by omega), if_pos (by omega), at_pt t i (by omega)]
    · simp only [if_true]
      exact hl2
theorem law0 (t : List Pnt) (ht : FitsT t) (s : ByteArray) (hn : (ddec s).Nodup) (hl : (ddec s).length < 8796093022208) (hz : ∀ x ∈ ddec s, x.size ≤ 140737488351232) : ∀ (d i : Nat), d + i = (ddec s).length → Ev (fun k => tachographlaw13_DictOf.l0 k t (ddec s) ((ddec s).length : Int) (i : Int) s) true
  | 0, i => fun hd => by
    refine Ev.step (f := fun k => tachographlaw13_DictOf.l1 k t (t.length : Int) 0) (fun k => ?_) (law1 t ht t.length 0 (by omega))
    simp only [tachographlaw13_DictOf.l0]
    rw [if_neg (by omega)]
  | d + 1, i => fun hd => by
    have hi : i < (ddec s).length := by omega
    refine Ev.step (f := fun k => tachographlaw13_DictOf.l0 k t (ddec s) ((ddec s).length : Int) ((i + 1 : Nat) : Int) s) (fun k => ?_) (law0 t ht s hn hl hz d (i + 1) (by omega))
    have hf : dict_Dict_Find.f s (ddec s)[i] = some ((i : Int), true, s) := by
      unfold dict_Dict_Find.f
      have hsz := hz _ (List.getElem_mem hi)
      rw [if_pos (by omega), if_pos (List.getElem_mem hi), decide_eq_true (List.getElem_mem hi), idx_at _ i hi hn]
    have hx : dict_Dict_Text.f s (i : Int) = some ((ddec s)[i], true, s) := by
      unfold dict_Dict_Text.f
      rw [if_neg (by omega), at_s _ i hi]
    simp only [tachographlaw13_DictOf.l0]
    rw [if_pos (by omega), if_pos (by omega), if_pos (by omega), at_s _ i hi, hf]
    simp only [Option.bind_some, hx, if_true]
    rw [w64 (by omega) (by omega)]
    rfl

/-! ### what bulk lets in -/
open Go.Proofs.YtjfklfmfeghjnabOpen in
theorem flat_le {α β : Type} {f : α → List β} {m : α → Nat} (h : ∀ x, (f x).length ≤ m x) : ∀ l : List α, (l.flatMap f).length ≤ sliceBulk m l
  | [] => by simp
  | x :: l => by
    have ih := flat_le h l
    have hx := h x
    simp only [sliceBulk, List.flatMap_cons, List.length_append, List.map_cons, List.sum_cons] at ih ⊢
    omega
open Go.Proofs.YtjfklfmfeghjnabOpen in
theorem fil_le {α β : Type} {f : α → Option β} {m : α → Nat} (h : ∀ x, 1 ≤ m x) : ∀ l : List α, (l.filterMap f).length ≤ sliceBulk m l
  | [] => by simp
  | x :: l => by
    have ih := fil_le (f := f) h l
    have hx := h x
    have h2 : ((x :: l).filterMap f).length ≤ (l.filterMap f).length + 1 := by
      rw [List.filterMap_cons]
      cases f x <;> simp
    simp only [sliceBulk, List.map_cons, List.sum_cons] at ih ⊢
    omega
open Go.Proofs.YtjfklfmfeghjnabOpen in
theorem DictOf : tachographlaw13_DictOf.Pure := by
  intro t ht hbk
  refine Ev.rounds ?_
  have hfit : FitsT t := by
    refine ⟨by have := ht.2.1; omega, fun p hp => ?_⟩
    obtain ⟨h1, h2⟩ := ht.2.2 p hp
    have h3 := wf_u64 h1
    refine ⟨h3, by have h : p.f1.length * 32 ≤ 140737488351232 := h2.2.1; omega, fun e he => ?_⟩
    obtain ⟨h4, h5⟩ := h2.2.2 e he
    have h6 := wf_i64 h4
    refine ⟨⟨h6.1, by omega⟩, by have h : e.f1.length * 32 ≤ 140737488351232 := h5.2.1; omega, fun a ha => (h5.2.2 a ha).2.2⟩
  have hlen : (strs t).length < 8796093022208 := by
    have h := flat_le (f := strsP) (m := fun b_ => pairBulk oneBulk (sliceBulk fun b_ : Evt => pairBulk oneBulk (sliceBulk fun b_ : Argm => pairBulk oneBulk (pairBulk oneBulk strBulk) (b_.f0, b_.f1, b_.f2)) (b_.f0, b_.f1)) (b_.f0, b_.f1)) (fun p => by
      have h2 := flat_le (f := strsE) (m := fun b_ : Evt => pairBulk oneBulk (sliceBulk fun b_ : Argm => pairBulk oneBulk (pairBulk oneBulk strBulk) (b_.f0, b_.f1, b_.f2)) (b_.f0, b_.f1)) (fun e => by
        have h3 := fil_le (f := strA) (m := fun b_ : Argm => pairBulk oneBulk (pairBulk oneBulk strBulk) (b_.f0, b_.f1, b_.f2)) (fun a => by simp only [pairBulk, oneBulk]; omega) e.f1
        simp only [pairBulk, oneBulk] at h3 ⊢
        unfold strsE
        omega) p.f1
      simp only [pairBulk, oneBulk] at h2 ⊢
      unfold strsP
      omega) t
    have h4 : (strs t).length ≤ 1048576 := Nat.le_trans h hbk
    omega
  have hsz : ∀ x ∈ strs t, x.size ≤ 140737488351232 := by
    intro x hx
    obtain ⟨p, hp, hx⟩ := List.mem_flatMap.1 hx
    obtain ⟨e, he, hx⟩ := List.mem_flatMap.1 hx
    obtain ⟨a, ha, hx⟩ := List.mem_filterMap.1 hx
    unfold strA at hx
    split at hx
    · obtain rfl := Option.some.inj hx
      exact ((hfit.2 p hp).2.2 e he).2.2 a ha
    · cases hx
  have hd := of_dec t
  have hpl := puts_len (strs t) []
  simp only [List.length_nil, Nat.zero_add] at hpl
  have hall : dict_Dict_All.f (putsS (denc []) (strs t)) = some (puts [] (strs t), putsS (denc []) (strs t)) := by unfold dict_Dict_All.f; rw [hd, if_pos (by omega)]
  obtain ⟨b, hb⟩ := tgreat_ev 2000 t hfit.fits (by have := hfit.1; omega)
  unfold tachographlaw13_DictOf.f
  refine Ev.bind hb ?_
  cases b
  · simp only [Bool.false_eq_true, if_false]
    refine Ev.bind (of_ev t hfit hlen) ?_
    simp only [hall, Option.bind_some]
    refine Ev.bind (rof_ev t hfit hlen) (Ev.bind (same_ev _ (by omega)) ?_)
    simp only [if_true]
    have h0 := law0 t hfit (putsS (denc []) (strs t)) (by rw [hd]; exact puts_nodup _ List.nodup_nil) (by rw [hd]; omega) (by rw [hd]; intro x hx; exact hsz x (((mem_puts _).1 hx).resolve_left (by simp))) (ddec (putsS (denc []) (strs t))).length 0 (by omega)
    rw [hd] at h0
    exact h0
  · simp only [if_true]
    refine Ev.congr (f := fun _ => some true) (fun k => ?_) (Ev.now _)
    rw [fixed13]
    rfl
end Go.Proofs.Ytjfklfmfeghjnab.Pure
