/- Plain laws on traces (layer 12): why a trace isn't of a signature, and how much it has, in the program and in the reference. -/
import Derived.Test.YtmmfakdncjeoeaaMTrace
import Derived.Test.YtmmfakdncjeoeaaPCx1
import Derived.Test.YtmmfakdncjeoeaaPCx3
set_option linter.unusedVariables false
namespace Go.Proofs.Ytmmfakdncjeoeaa.MTrace
open Go.RowKit Go.Proofs.Ytmmfakdncjeoeaa.PC Go.Proofs.Ytmmfakdncjeoeaa.MSig Go.Proofs.Ytmmfakdncjeoeaa.MBase Go.Proofs.YtmmfakdncjeoeaaW.PrintWords Go.Proofs.YtmmfakdncjeoeaaW.PrintLast Go.Proofs.YtmmfakdncjeoeaaW.PrintMore

def Fits (t : List Point) : Prop := ∀ i, i < t.length → 0 ≤ (rd_T56 t (i : Int)).f0 ∧ (rd_T56 t (i : Int)).f0 < 18446744073709551616 ∧ (rd_T56 t (i : Int)).f1.length < 9223372036854775807 ∧ ∀ j, j < (rd_T56 t (i : Int)).f1.length → (rd_T59 (rd_T56 t (i : Int)).f1 (j : Int)).f1.length < 9223372036854775807

def evsc (sig : List Pred) (es : List Event) : Nat → Nat → Int
  | 0, _ => 0
  | n + 1, i => if evc sig (rd_T59 es (i : Int)) = 0 then evsc sig es n (i + 1) else evc sig (rd_T59 es (i : Int))
def ptc (sig : List Pred) (p : Point) (ahead : Int) : Int := if p.f0 < ahead then 8 else if (p.f1.length : Int) > 1024 then 6 else evsc sig p.f1 p.f1.length 0
def trc (sig : List Pred) (t : List Point) : Nat → Nat → Int → Int × Int
  | 0, _, _ => (0, 0)
  | n + 1, i, ah => if ptc sig (rd_T56 t (i : Int)) ah = 0 then trc sig t n (i + 1) (rd_T56 t (i : Int)).f0 else (ptc sig (rd_T56 t (i : Int)) ah, (i : Int))
def tcheck (sig : List Pred) (t : List Point) : Int × Int := if check sig = 0 then trc sig t t.length 0 0 else (check sig, 0)

theorem events_from (sig : List Pred) (es : List Event) (hm : es.length < 9223372036854775807) (he : ∀ j, j < es.length → (rd_T59 es (j : Int)).f1.length < 9223372036854775807) : ∀ (n i : Nat), n + i = es.length →
    Ev (fun k => trace_point.l0 k sig es (es.length : Int) (i : Int)) (evsc sig es n i)
  | 0, i => fun hn => by
    refine Ev.step (f := fun _ => some 0) (fun k => ?_) (Ev.now _)
    simp only [trace_point.l0]
    rw [if_neg (by omega)]
  | n + 1, i => fun hn => by
    have ih := events_from sig es hm he n (i + 1) (by omega)
    refine Ev.step (f := fun k => (trace_Event.f k sig ((rd_T59 es (i : Int)).f0) ((rd_T59 es (i : Int)).f1)).bind fun t119 => (if t119 = 0 then (trace_point.l0 k sig es (es.length : Int) ((i + 1 : Nat) : Int)) else (some t119))) (fun k => ?_) (Ev.bind (event_ev sig _ (he i (by omega))) ?_)
    · simp only [trace_point.l0]
      rw [if_pos (by omega), if_pos (by omega), if_pos (by omega), w64 (by omega) (by omega)]
      rfl
    · simp only [evsc]
      by_cases h : evc sig (rd_T59 es (i : Int)) = 0
      · simp only [if_pos h]
        exact ih
      · simp only [if_neg h]
        exact Ev.now _
theorem point_ev (sig : List Pred) (p : Point) (ah : Int) (hm : p.f1.length < 9223372036854775807) (he : ∀ j, j < p.f1.length → (rd_T59 p.f1 (j : Int)).f1.length < 9223372036854775807) : Ev (fun k => trace_point.f k sig p.f0 p.f1 ah) (ptc sig p ah) := by
  unfold trace_point.f ptc
  by_cases h1 : p.f0 < ah
  · simp only [if_pos h1]
    exact Ev.now _
  · simp only [if_neg h1]
    by_cases h2 : (p.f1.length : Int) > 1024
    · simp only [if_pos h2]
      exact Ev.now _
    · simp only [if_neg h2]
      exact events_from sig p.f1 hm he p.f1.length 0 (by omega)
theorem points_from (sig : List Pred) (t : List Point) (ht : Fits t) (hm : t.length < 9223372036854775807) : ∀ (n i : Nat) (ah : Int), n + i = t.length → Ev (fun k => trace_Check.l0 k sig ah t (t.length : Int) (i : Int)) (trc sig t n i ah)
  | 0, i, ah => fun hn => by
    refine Ev.step (f := fun _ => some (0, 0)) (fun k => ?_) (Ev.now _)
    simp only [trace_Check.l0]
    rw [if_neg (by omega)]
  | n + 1, i, ah => fun hn => by
    obtain ⟨_, _, h1, h2⟩ := ht i (by omega)
    have ih := points_from sig t ht hm n (i + 1) (rd_T56 t (i : Int)).f0 (by omega)
    refine Ev.step (f := fun k => (trace_point.f k sig ((rd_T56 t (i : Int)).f0) ((rd_T56 t (i : Int)).f1) ah).bind fun t123 => (if t123 = 0 then (trace_Check.l0 k sig ((rd_T56 t (i : Int)).f0) t (t.length : Int) ((i + 1 : Nat) : Int)) else (some (t123, (i : Int))))) (fun k => ?_) (Ev.bind (point_ev sig _ ah h1 h2) ?_)
    · simp only [trace_Check.l0]
      rw [if_pos (by omega), if_pos (by omega), if_pos (by omega), w64 (by omega) (by omega)]
      rfl
    · simp only [trc]
      by_cases h : ptc sig (rd_T56 t (i : Int)) ah = 0
      · simp only [if_pos h]
        exact ih
      · simp only [if_neg h]
        exact Ev.now _
theorem tcheck_ev (sig : List Pred) (hs : Short sig) (t : List Point) (ht : Fits t) (hm : t.length < 9223372036854775807) : Ev (fun k => trace_Check.f k sig t) (tcheck sig t) := by
  unfold trace_Check.f tcheck
  refine Ev.bind (check_ev sig hs) ?_
  by_cases h : check sig = 0
  · simp only [if_pos h]
    exact points_from sig t ht hm t.length 0 0 (by omega)
  · simp only [if_neg h]
    exact Ev.now _

/-! ### is it great? whatever the answer is -/
theorem great2 (m : Int) (t : List Point) (i : Nat) (es : List Event) (j : Nat) (hj : j < 9223372036854775806) (as_ : List Arg) (ha : as_.length < 9223372036854775807)
    (hv : ∀ n, ∃ b, Ev (fun k => tachographlaw12_Great.l1 k m n t (t.length : Int) (i : Int) es (es.length : Int) ((j + 1 : Nat) : Int)) b) : ∀ (d q : Nat) (n : Int), d + q = as_.length → ∃ b, Ev (fun k => tachographlaw12_Great.l2 k m n t (t.length : Int) (i : Int) es (es.length : Int) (j : Int) as_ (as_.length : Int) (q : Int)) b
  | 0, q, n => fun hd => by
    obtain ⟨b, hb⟩ := hv n
    refine ⟨b, Ev.step (f := fun k => tachographlaw12_Great.l1 k m n t (t.length : Int) (i : Int) es (es.length : Int) ((j + 1 : Nat) : Int)) (fun k => ?_) hb⟩
    simp only [tachographlaw12_Great.l2]
    rw [if_neg (by omega), w64 (by omega) (by omega)]
    rfl
  | d + 1, q, n => fun hd => by
    obtain ⟨b, hb⟩ := great2 m t i es j hj as_ ha hv d (q + 1) (wrap64 (n + (wrap64 ((((rd_T61 as_ (q : Int)).f2).size : Int) / 8)))) (by omega)
    refine ⟨b, Ev.step (f := fun k => tachographlaw12_Great.l2 k m (wrap64 (n + (wrap64 ((((rd_T61 as_ (q : Int)).f2).size : Int) / 8)))) t (t.length : Int) (i : Int) es (es.length : Int) (j : Int) as_ (as_.length : Int) ((q + 1 : Nat) : Int)) (fun k => ?_) hb⟩
    simp only [tachographlaw12_Great.l2]
    rw [if_pos (by omega), if_pos (by omega), if_pos (by omega), w64 (x := (q : Int) + 1) (by omega) (by omega)]
    rfl
theorem great1 (m : Int) (t : List Point) (i : Nat) (hi : i < 9223372036854775806) (es : List Event) (hm : es.length < 9223372036854775807) (he : ∀ j, j < es.length → (rd_T59 es (j : Int)).f1.length < 9223372036854775807)
    (hv : ∀ n, ∃ b, Ev (fun k => tachographlaw12_Great.l0 k m n t (t.length : Int) ((i + 1 : Nat) : Int)) b) : ∀ (d j : Nat) (n : Int), d + j = es.length → ∃ b, Ev (fun k => tachographlaw12_Great.l1 k m n t (t.length : Int) (i : Int) es (es.length : Int) (j : Int)) b
  | 0, j, n => fun hd => by
    obtain ⟨b, hb⟩ := hv n
    refine ⟨b, Ev.step (f := fun k => tachographlaw12_Great.l0 k m n t (t.length : Int) ((i + 1 : Nat) : Int)) (fun k => ?_) hb⟩
    simp only [tachographlaw12_Great.l1]
    rw [if_neg (by omega), w64 (by omega) (by omega)]
    rfl
  | d + 1, j, n => fun hd => by
    obtain ⟨b, hb⟩ := great2 m t i es j (by omega) (rd_T59 es (j : Int)).f1 (he j (by omega)) (fun n => great1 m t i hi es hm he hv d (j + 1) n (by omega)) _ 0 (wrap64 (n + (((rd_T59 es (j : Int)).f1).length : Int))) rfl
    refine ⟨b, Ev.step (f := fun k => tachographlaw12_Great.l2 k m (wrap64 (n + (((rd_T59 es (j : Int)).f1).length : Int))) t (t.length : Int) (i : Int) es (es.length : Int) (j : Int) ((rd_T59 es (j : Int)).f1) (((rd_T59 es (j : Int)).f1).length : Int) 0) (fun k => ?_) hb⟩
    simp only [tachographlaw12_Great.l1]
    rw [if_pos (by omega), if_pos (by omega), if_pos (by omega)]
theorem great0 (m : Int) (t : List Point) (ht : Fits t) (hm : t.length < 9223372036854775807) : ∀ (d i : Nat) (n : Int), d + i = t.length → ∃ b, Ev (fun k => tachographlaw12_Great.l0 k m n t (t.length : Int) (i : Int)) b
  | 0, i, n => fun hd => by
    refine ⟨decide (n > m), Ev.step (f := fun _ => some (decide (n > m))) (fun k => ?_) (Ev.now _)⟩
    simp only [tachographlaw12_Great.l0]
    rw [if_neg (by omega)]
  | d + 1, i, n => fun hd => by
    obtain ⟨_, _, h1, h2⟩ := ht i (by omega)
    by_cases hg : (wrap64 (n + (((rd_T56 t (i : Int)).f1).length : Int))) > m
    · refine ⟨true, Ev.step (f := fun _ => some true) (fun k => ?_) (Ev.now _)⟩
      simp only [tachographlaw12_Great.l0]
      rw [if_pos (by omega), if_pos (by omega), if_pos (by omega), if_pos hg]
    · obtain ⟨b, hb⟩ := great1 m t i (by omega) (rd_T56 t (i : Int)).f1 h1 h2 (fun n => great0 m t ht hm d (i + 1) n (by omega)) _ 0 (wrap64 (n + (((rd_T56 t (i : Int)).f1).length : Int))) rfl
      refine ⟨b, Ev.step (f := fun k => tachographlaw12_Great.l1 k m (wrap64 (n + (((rd_T56 t (i : Int)).f1).length : Int))) t (t.length : Int) (i : Int) ((rd_T56 t (i : Int)).f1) (((rd_T56 t (i : Int)).f1).length : Int) 0) (fun k => ?_) hb⟩
      simp only [tachographlaw12_Great.l0]
      rw [if_pos (by omega), if_pos (by omega), if_pos (by omega), if_neg hg]
theorem tgreat_ev (m : Int) (t : List Point) (ht : Fits t) (hm : t.length < 9223372036854775807) : ∃ b, Ev (fun k => tachographlaw12_Great.f k t m) b := great0 m t ht hm t.length 0 _ (by omega)
end Go.Proofs.Ytmmfakdncjeoeaa.MTrace
