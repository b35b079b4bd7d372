/- QuotePuts, plainly. -/
import Derived.Test.YtjfklfmfeghjnacMQuote
import Derived.Test.YtjfklfmfeghjnacPQx1
import Derived.Test.YtjfklfmfeghjnacPQx3
set_option linter.unusedVariables false
namespace Go.Proofs.Ytjfklfmfeghjnac.Pure
open Go.RowKit Go.Proofs.Ytjfklfmfeghjnac.PQ Go.Proofs.Ytjfklfmfeghjnac.MQuote Go.Proofs.Ytjfklfmfeghjnac.MBase Go.Proofs.YtjfklfmfeghjnacW.PrintWords Go.Proofs.YtjfklfmfeghjnacW.PrintLast Go.Proofs.YtjfklfmfeghjnacW.PrintMore

theorem fixed20 : Ev (fun k => tachographlaw20_fixed.f k) true := by
  unfold tachographlaw20_fixed.f
  refine Ev.bind (put_ev _ (by decide)) ?_
  refine Ev.congr (f := fun _ => some true) (fun k => ?_) (Ev.now _)
  rw [toList_strOfNums]
  decide

theorem seen (q : List Int) (hq : ∀ x ∈ q, 32 ≤ x ∧ x ≤ 126) (hl : q.length ≤ 100000) : ∀ (n i : Nat), n + i = q.length → Ev (fun k => tachographlaw20_QuotePuts.l0 k (strOfNums q) ((strOfNums q).size : Int) (i : Int)) true
  | 0, i => fun h => by
    have hs : (strOfNums q).size = q.length := strOfNums_size q
    refine Ev.step (f := fun k => (tachographlaw20_fixed.f k).bind fun t => some t) (fun k => ?_) (Ev.bind fixed20 (Ev.now _))
    simp only [tachographlaw20_QuotePuts.l0]
    rw [if_neg (by omega)]
  | n + 1, i => fun h => by
    have hs : (strOfNums q).size = q.length := strOfNums_size q
    have hb : bytesOf (strOfNums q) = q := bytesOf_strOfNums (fun x hx => by have := hq x hx; omega)
    have hd := bt_drop (strOfNums q) i (by omega)
    rw [hb] at hd
    have hm : bt (strOfNums q) (i : Int) ∈ q := List.mem_of_mem_drop (by rw [hd]; exact List.mem_cons_self)
    have hr := hq _ hm
    refine Ev.step (f := fun k => tachographlaw20_QuotePuts.l0 k (strOfNums q) ((strOfNums q).size : Int) ((i + 1 : Nat) : Int)) (fun k => ?_) (seen q hq hl n (i + 1) (by omega))
    simp only [tachographlaw20_QuotePuts.l0]
    rw [if_pos (by omega), if_pos (by omega), if_pos (by omega), if_neg (by omega), if_neg (by omega), w64 (by omega) (by omega)]
    rfl

theorem QuotePuts : tachographlaw20_QuotePuts.Pure := by
  intro s b hs hb
  refine Ev.rounds ?_
  unfold tachographlaw20_QuotePuts.f
  have jt : Ev (fun k => tachographlaw20_QuotePuts.j0 k s b true) true :=
    Ev.step (f := fun k => (tachographlaw20_fixed.f k).bind fun t => some t) (fun k => by simp only [tachographlaw20_QuotePuts.j0, if_true]) (Ev.bind fixed20 (Ev.now _))
  by_cases h1 : (s.size : Int) > 600
  · exact Ev.congr (f := fun k => tachographlaw20_QuotePuts.j0 k s b true) (fun k => by rw [if_pos h1]) jt
  · by_cases h2 : (b.size : Int) > 100
    · exact Ev.congr (f := fun k => tachographlaw20_QuotePuts.j0 k s b true) (fun k => by rw [if_neg h1, decide_eq_true h2]) jt
    · have hl := bytesOf_length s
      have hlb := bytesOf_length b
      have hby := byt_bytesOf s
      have hfl := flat_len (bytesOf s)
      obtain ⟨q, hq⟩ : ∃ q, quo (bytesOf s) = q := ⟨_, rfl⟩
      have hqb := quo_byte (bytesOf s) hby
      have hql : q.length ≤ 3000 := by rw [← hq]; simp only [quo, List.length_cons, List.length_append, List.length_nil]; omega
      have hqs : (strOfNums q).size = q.length := strOfNums_size q
      have hp := put_ev s (by omega)
      have hrp := rput_ev s (by omega)
      have hread := qget_quo (bytesOf s) (bytesOf b) hby (byt_bytesOf b)
      rw [hq] at hp hrp hread hqb
      have he : strOfNums (q ++ bytesOf b) = strOfNums q ++ b := by rw [strOfNums_append, strOfNums_bytesOf]
      rw [he] at hread
      have hg := (get_ev (strOfNums q ++ b) (by rw [ByteArray.size_append]; omega)).1
      rw [hread] at hg
      have hj1 : Ev (fun k => tachographlaw20_QuotePuts.j1 k (strOfNums q) false) true :=
        Ev.step (f := fun k => tachographlaw20_QuotePuts.l0 k (strOfNums q) ((strOfNums q).size : Int) ((0 : Nat) : Int)) (fun k => by simp only [tachographlaw20_QuotePuts.j1, Bool.false_eq_true, if_false]; rfl) (seen q hqb (by omega) q.length 0 (by omega))
      refine Ev.congr (f := fun k => tachographlaw20_QuotePuts.j0 k s b false) (fun k => by rw [if_neg h1, decide_eq_false h2]) (Ev.step (f := fun k => (quote_Put.f k s).bind fun t153 => (if t153.size + b.size ≤ 9223372036854775807 then ((quote_Get.f k (t153 ++ b)).bind fun bt154 => ((tachographref20_Put.f k s).bind fun t157 => (if t153.toList = t157.toList then (if (s.size : Int) ≤ 200 then (if bt154.1.toList = s.toList then (if bt154.2.1 = (t153.size : Int) then (if bt154.2.2 = 0 then (if (s.size : Int) > 200 then (tachographlaw20_QuotePuts.j1 k t153 (bt154.2.2 != 6)) else (tachographlaw20_QuotePuts.j1 k t153 false)) else (tachographlaw20_QuotePuts.j1 k t153 true)) else (tachographlaw20_QuotePuts.j1 k t153 true)) else (tachographlaw20_QuotePuts.j1 k t153 true)) else (if (s.size : Int) > 200 then (tachographlaw20_QuotePuts.j1 k t153 (bt154.2.2 != 6)) else (tachographlaw20_QuotePuts.j1 k t153 false))) else (tachographlaw20_QuotePuts.j1 k t153 true)))) else (none))) (fun k => by simp only [tachographlaw20_QuotePuts.j0, Bool.false_eq_true, if_false]) ?_)
      refine Ev.bind hp ?_
      have hsum : (strOfNums q).size + b.size ≤ 9223372036854775807 := by omega
      simp only [if_pos hsum]
      refine Ev.bind hg (Ev.bind hrp ?_)
      simp only [if_true]
      by_cases h3 : (bytesOf s).length > 200
      · have a1 : ¬ (s.size : Int) ≤ 200 := by omega
        have a2 : (s.size : Int) > 200 := by omega
        rw [if_pos h3]
        simp only [if_neg a1, if_pos a2, qval, bne_self_eq_false]
        exact hj1
      · have a1 : (s.size : Int) ≤ 200 := by omega
        have a2 : ¬ (s.size : Int) > 200 := by omega
        rw [if_neg h3]
        have a3 : (q.length : Int) = ((strOfNums q).size : Int) := by omega
        simp only [if_pos a1, if_neg a2, qval, strOfNums_bytesOf, if_true, if_pos a3]
        exact hj1
end Go.Proofs.Ytjfklfmfeghjnac.Pure
