/- Proved: tachographlaw01.WireGets answers true at every list of bytes: as which number bytes are read, or why they aren't, is the document's, and what is read has just those bytes. Conditions: none but the form's own reach. -/
import Derived.Test.YtjfklfmfeghjnaaMWire
namespace Go.Proofs.Ytjfklfmfeghjnaa.Pure
open Go.RowKit Go.Proofs.Ytjfklfmfeghjnaa.PWire Go.Proofs.Ytjfklfmfeghjnaa.MWire Go.Proofs.YtjfklfmfeghjnaaW.PrintWords Go.Proofs.YtjfklfmfeghjnaaW.PrintLast

theorem WireGets : tachographlaw01_WireGets.Pure := by
  intro l0 hm _ hw
  have hb := byt_wf hw
  refine Ev.rounds (r := true) ?_
  by_cases h : (l0.length : Int) > 300
  · refine Ev.congr (f := fun _ => some true) (fun k => ?_) (Ev.now _)
    unfold tachographlaw01_WireGets.f
    rw [if_pos h, fixed01]
    rfl
  · have e : bytesOf (strOfNums l0) = l0 := bytesOf_strOfNums hb
    have hr := refget_ev (strOfNums l0) (by rw [strOfNums_size]; omega)
    rw [e] at hr
    obtain ⟨n, k, e3, hq⟩ : ∃ n k e3, wget l0 = (n, k, e3) := ⟨_, _, _, rfl⟩
    rw [hq] at hr
    have hg := get_ev l0 hb
    rw [hq] at hg
    refine Ev.congr (fun k => by unfold tachographlaw01_WireGets.f; rw [if_neg h]) (Ev.bind hg (Ev.bind hr ?_))
    refine Ev.congr (fun k => by rw [if_pos rfl, if_pos rfl]) ?_
    refine Ev.step (f := fun _ => some true) (fun k' => ?_) (Ev.now _)
    simp only [tachographlaw01_WireGets.j0]
    rw [if_neg (by simp), fixed01]
    simp only [Option.bind_some, if_true]
    by_cases h0 : e3 = 0
    · subst h0
      obtain ⟨m, rfl, hm1, rfl, hl, ht⟩ := wget_back hb hq
      rw [if_pos rfl, if_pos (by omega)]
      have hp : wire_Put.f [] (m : Int) = some (wbytes m) := by
        unfold wire_Put.f
        rw [if_pos ⟨by simp, by omega, by omega⟩]
        rfl
      rw [hp]
      simp only [Option.bind_some]
      rw [if_pos (by omega), Int.toNat_natCast, ← ht]
      simp
    · rw [if_neg h0]

end Go.Proofs.Ytjfklfmfeghjnaa.Pure
