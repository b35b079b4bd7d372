/- Plain laws on traces (layer 12): how much a trace has, in the program and in the reference. -/
import Derived.Test.YtjfklfmfeghjnabMTraceCheck
import Derived.Test.YtjfklfmfeghjnabPTx10
set_option linter.unusedVariables false
namespace Go.Proofs.Ytjfklfmfeghjnab.MTrace
open Go.RowKit Go.Proofs.Ytjfklfmfeghjnab.PT Go.Proofs.Ytjfklfmfeghjnab.MSig Go.Proofs.Ytjfklfmfeghjnab.MBase Go.Proofs.YtjfklfmfeghjnabW.PrintWords Go.Proofs.YtjfklfmfeghjnabW.PrintLast Go.Proofs.YtjfklfmfeghjnabW.PrintMore

def tally1 (s : Int × Int × Int) (e : Event) : Int × Int × Int := (wrap64 (s.1 + 1), wrap64 (s.2.1 + (e.f1.length : Int)), trace_sum s.2.2 e.f1)
theorem tally_eq (l : List Event) : trace_tally l = l.foldl tally1 (0, 0, 0) := rfl
theorem sum_drop (xs : List Arg) (b : Int) (q : Nat) (h : q < xs.length) : trace_sum b (xs.drop q) = trace_sum (wrap64 (b + ((rd_T70 xs (q : Int)).f2.size : Int))) (xs.drop (q + 1)) := by
  have e : rd_T70 xs (q : Int) = xs[q] := by rw [rd_a]; simp [List.getD_eq_getElem?_getD, List.getElem?_eq_getElem h]
  rw [e, List.drop_eq_getElem_cons h]
  rfl
theorem rcount2 (t : List Point) (i : Nat) (j : Nat) (hj : j < 9223372036854775806) (xs : List Arg) (hx : xs.length < 9223372036854775807) (a b : Int) (v : Int × Int × Int) : ∀ (d q : Nat) (c : Int), d + q = xs.length →
    Ev (fun k => tachographref12_Count.l1 k t (i : Int) ((j + 1 : Nat) : Int) a b (trace_sum c (xs.drop q))) v → Ev (fun k => tachographref12_Count.l2 k t (i : Int) (j : Int) xs (q : Int) a b c) v
  | 0, q, c => fun hd hv => by
    rw [List.drop_eq_nil_of_le (by omega)] at hv
    refine Ev.step (f := fun k => tachographref12_Count.l1 k t (i : Int) ((j + 1 : Nat) : Int) a b c) (fun k => ?_) hv
    simp only [tachographref12_Count.l2]
    rw [if_neg (by omega), w64 (by omega) (by omega)]
    rfl
  | d + 1, q, c => fun hd hv => by
    rw [sum_drop xs c q (by omega)] at hv
    have ih := rcount2 t i j hj xs hx a b v d (q + 1) _ (by omega) hv
    refine Ev.step (f := fun k => tachographref12_Count.l2 k t (i : Int) (j : Int) xs ((q + 1 : Nat) : Int) a b (wrap64 (c + ((rd_T70 xs (q : Int)).f2.size : Int)))) (fun k => ?_) ih
    simp only [tachographref12_Count.l2]
    rw [if_pos (by omega), if_pos (by omega), w64 (x := (q : Int) + 1) (by omega) (by omega)]
    rfl
theorem rcount1 (t : List Point) (i : Nat) (hi : i < t.length) (hit : t.length < 9223372036854775807) (hm : (rd_T44 t (i : Int)).f1.length < 9223372036854775807) (he : ∀ j, j < (rd_T44 t (i : Int)).f1.length → (rd_T61 (rd_T44 t (i : Int)).f1 (j : Int)).f1.length < 9223372036854775807)
    (v : Int × Int × Int) : ∀ (d j : Nat) (s : Int × Int × Int), d + j = (rd_T44 t (i : Int)).f1.length →
    Ev (fun k => tachographref12_Count.l0 k t ((i + 1 : Nat) : Int) (((rd_T44 t (i : Int)).f1.drop j).foldl tally1 s).1 (((rd_T44 t (i : Int)).f1.drop j).foldl tally1 s).2.1 (((rd_T44 t (i : Int)).f1.drop j).foldl tally1 s).2.2) v →
    Ev (fun k => tachographref12_Count.l1 k t (i : Int) (j : Int) s.1 s.2.1 s.2.2) v
  | 0, j, s => fun hd hv => by
    rw [List.drop_eq_nil_of_le (by omega)] at hv
    refine Ev.step (f := fun k => tachographref12_Count.l0 k t ((i + 1 : Nat) : Int) s.1 s.2.1 s.2.2) (fun k => ?_) hv
    simp only [tachographref12_Count.l1]
    rw [if_pos (by omega), if_pos (by omega), if_neg (by omega), w64 (by omega) (by omega)]
    rfl
  | d + 1, j, s => fun hd hv => by
    have e : rd_T61 (rd_T44 t (i : Int)).f1 (j : Int) = (rd_T44 t (i : Int)).f1[j]'(by omega) := by rw [rd_e]; simp [List.getD_eq_getElem?_getD, List.getElem?_eq_getElem (show j < (rd_T44 t (i : Int)).f1.length by omega)]
    rw [List.drop_eq_getElem_cons (by omega), List.foldl_cons, ← e] at hv
    have ih := rcount1 t i hi hit hm he v d (j + 1) _ (by omega) hv
    have h2 := rcount2 t i j (by omega) (rd_T61 (rd_T44 t (i : Int)).f1 (j : Int)).f1 (he j (by omega)) (wrap64 (s.1 + 1)) (wrap64 (s.2.1 + ((rd_T61 (rd_T44 t (i : Int)).f1 (j : Int)).f1.length : Int))) v _ 0 s.2.2 rfl ih
    refine Ev.step (f := fun k => tachographref12_Count.l2 k t (i : Int) (j : Int) ((rd_T61 ((rd_T44 t (i : Int)).f1) (j : Int)).f1) 0 (wrap64 (s.1 + 1)) (wrap64 (s.2.1 + (((rd_T61 ((rd_T44 t (i : Int)).f1) (j : Int)).f1).length : Int))) s.2.2) (fun k => ?_) h2
    simp only [tachographref12_Count.l1]
    rw [if_pos (by omega), if_pos (by omega), if_pos (by omega), if_pos (by omega)]
theorem rcount0 (t : List Point) (ht : Fits t) (hm : t.length < 9223372036854775807) : ∀ (d i : Nat) (s : Int × Int × Int), d + i = t.length → Ev (fun k => tachographref12_Count.l0 k t (i : Int) s.1 s.2.1 s.2.2) ((trace_evs (t.drop i)).foldl tally1 s)
  | 0, i, s => fun hd => by
    rw [List.drop_eq_nil_of_le (by omega)]
    refine Ev.step (f := fun _ => some (s.1, s.2.1, s.2.2)) (fun k => ?_) (Ev.now _)
    simp only [tachographref12_Count.l0]
    rw [if_neg (by omega)]
  | d + 1, i, s => fun hd => by
    obtain ⟨_, _, h1, h2⟩ := ht i (by omega)
    have e : rd_T44 t (i : Int) = t[i]'(by omega) := by rw [rd_pt]; simp [List.getD_eq_getElem?_getD, List.getElem?_eq_getElem (show i < t.length by omega)]
    have e2 : trace_evs (t.drop i) = (rd_T44 t (i : Int)).f1 ++ trace_evs (t.drop (i + 1)) := by
      rw [List.drop_eq_getElem_cons (by omega : i < t.length), e]
      rfl
    rw [e2, List.foldl_append]
    have ih := rcount0 t ht hm d (i + 1) ((rd_T44 t (i : Int)).f1.foldl tally1 s) (by omega)
    refine Ev.step (f := fun k => tachographref12_Count.l1 k t (i : Int) 0 s.1 s.2.1 s.2.2) (fun k => ?_) (rcount1 t i (by omega) hm h1 h2 _ _ 0 s rfl ih)
    simp only [tachographref12_Count.l0]
    rw [if_pos (by omega)]
theorem rcount_ev (t : List Point) (ht : Fits t) (hm : t.length < 9223372036854775807) : Ev (fun k => tachographref12_Count.f k t) (trace_tally (trace_evs t)) := rcount0 t ht hm t.length 0 (0, 0, 0) (by omega)
end Go.Proofs.Ytjfklfmfeghjnab.MTrace
