/- Proved: tachographlaw02.BlobPuts answers true at every bytes, text and number: any text's bytes, behind any others, are the document's; they are read as the text, if that isn't too long. Conditions: none but the form's own reach. -/
import Derived.Test.YtjfklfmfeghjnaaMBlob
import Derived.Test.YtjfklfmfeghjnaaPAx4
namespace Go.Proofs.Ytjfklfmfeghjnaa.Pure
open Go.RowKit Go.Proofs.Ytjfklfmfeghjnaa.PA Go.Proofs.Ytjfklfmfeghjnaa.MW Go.Proofs.Ytjfklfmfeghjnaa.MBlob Go.Proofs.YtjfklfmfeghjnaaW.PrintWords Go.Proofs.YtjfklfmfeghjnaaW.PrintLast Go.Proofs.YtjfklfmfeghjnaaW.PrintMore

theorem blobPuts_j1 (s : ByteArray) (most : Int) (hs : s.size ≤ 600) : Ev (fun k => tachographlaw02_BlobPuts.j1 k s most (if (s.size : Int) > (if most < 0 then 0 else most) then (nobytes, 0, (6 : Int)) else (s, (((bbytes s).length : Nat) : Int), (0 : Int))).1 (if (s.size : Int) > (if most < 0 then 0 else most) then (nobytes, 0, (6 : Int)) else (s, (((bbytes s).length : Nat) : Int), (0 : Int))).2.1 (if (s.size : Int) > (if most < 0 then 0 else most) then (nobytes, 0, 6) else (s, (((bbytes s).length : Nat) : Int), (0 : Int))).2.2 false) true := by
  have hr := refput_bytes s (by omega)
  by_cases h : (s.size : Int) > (if most < 0 then 0 else most)
  · simp only [if_pos h]
    refine Ev.step (f := fun _ => some true) (fun k => ?_) (Ev.now _)
    simp only [tachographlaw02_BlobPuts.j1, fixed02]
    rw [if_neg (by simp), if_pos (by rw [mx0]; exact h), Option.bind_some, if_pos rfl, if_pos nobytes_toList, if_pos trivial]
    rfl
  · simp only [if_neg h]
    refine Ev.step (f := fun k => (tachographref02_Put.f k s).bind fun t136 => if (((bbytes s).length : Nat) : Int) = (t136.size : Int) then some ((0 : Int) == 0) else some false) (fun k => ?_) (Ev.bind hr ?_)
    · simp only [tachographlaw02_BlobPuts.j1, fixed02]
      rw [if_neg (by simp), if_neg (by rw [mx0]; exact h), Option.bind_some, if_pos rfl, if_pos trivial]
    · rw [strOfNums_size, if_pos rfl]
      exact Ev.now _

theorem BlobPuts : tachographlaw02_BlobPuts.Pure := by
  intro l0 s most hm _ hw hs0 hmost
  have hb := byt_wf hw
  have hmost := wf_i64 hmost
  refine Ev.rounds (r := true) ?_
  by_cases hc : (l0.length : Int) > 600 ∨ (s.size : Int) > 600
  · refine Ev.congr (f := fun k => tachographlaw02_BlobPuts.j0 k l0 s most true) (fun k => ?_) (Ev.step (f := fun _ => some true) (fun k => ?_) (Ev.now _))
    · unfold tachographlaw02_BlobPuts.f
      by_cases h : (l0.length : Int) > 600
      · rw [if_pos h]
      · rw [if_neg h, decide_eq_true (hc.resolve_left h)]
    · simp only [tachographlaw02_BlobPuts.j0, fixed02]
      rfl
  · have hl : ¬ (l0.length : Int) > 600 := fun h => hc (.inl h)
    have hs : ¬ (s.size : Int) > 600 := fun h => hc (.inr h)
    refine Ev.congr (f := fun k => tachographlaw02_BlobPuts.j0 k l0 s most false) (fun k => by unfold tachographlaw02_BlobPuts.f; rw [if_neg hl, decide_eq_false hs]) ?_
    have hp := put_bytes l0 s (by omega) (by omega)
    have hr := refput_bytes s (by omega)
    have hlen := bbytes_len s
    have h10 := wbytes_le10 (m := s.size) (by omega)
    have hcat : strOfNums (bbytes s) ++ strOfNums l0 = strOfNums (bbytes s ++ l0) := (strOfNums_append _ _).symm
    have hcat2 : strOfNums l0 ++ strOfNums (bbytes s) = strOfNums (l0 ++ bbytes s) := (strOfNums_append _ _).symm
    have hby : bytesOf (strOfNums (bbytes s ++ l0)) = bbytes s ++ l0 := bytesOf_strOfNums ((byt_bbytes s).append hb)
    have hg := get_ev (bbytes s ++ l0) ((byt_bbytes s).append hb) (by rw [List.length_append]; omega) most hmost
    rw [bget_put s (by omega)] at hg
    refine Ev.step (fun k => by simp only [tachographlaw02_BlobPuts.j0]; rw [if_neg (by simp), hp, Option.bind_some]) (Ev.bind hr ?_)
    refine Ev.congr (fun k => by rw [if_pos (by rw [strOfNums_size, strOfNums_size]; omega), hcat, if_pos (by rw [strOfNums_size, List.length_append]; omega), hby]) (Ev.bind hg ?_)
    refine Ev.bind hr ?_
    refine Ev.congr (fun k => by rw [if_pos (by rw [strOfNums_size, strOfNums_size]; omega), hcat2, if_pos rfl]) (blobPuts_j1 s most (by omega))

end Go.Proofs.Ytjfklfmfeghjnaa.Pure
