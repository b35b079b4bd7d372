/- Proved: tachographlaw02.BlobGets answers true at every bytes and number: as which text, and as which texts, any bytes are read, or why they aren't, is the document's; what is read has just those bytes. Conditions: none but the form's own reach. -/
import Derived.Test.YtjfklfmfeghjnaaMBlobAll
import Derived.Test.YtjfklfmfeghjnaaPAx7
namespace Go.Proofs.Ytjfklfmfeghjnaa.Pure
open Go.RowKit Go.Proofs.Ytjfklfmfeghjnaa.PA Go.Proofs.Ytjfklfmfeghjnaa.MW Go.Proofs.Ytjfklfmfeghjnaa.MBlob Go.Proofs.YtjfklfmfeghjnaaW.PrintWords Go.Proofs.YtjfklfmfeghjnaaW.PrintLast Go.Proofs.YtjfklfmfeghjnaaW.PrintMore

theorem BlobGets : tachographlaw02_BlobGets.Pure := by
  intro l0 most hm _ hw hmost
  have hb := byt_wf hw
  have hmost := wf_i64 hmost
  refine Ev.rounds (r := true) ?_
  by_cases h : (l0.length : Int) > 600
  · refine Ev.congr (f := fun _ => some true) (fun k => ?_) (Ev.now _)
    unfold tachographlaw02_BlobGets.f
    rw [if_pos h, fixed02]
    rfl
  · have hby : bytesOf (strOfNums l0) = l0 := bytesOf_strOfNums hb
    have hsz : (strOfNums l0).size = l0.length := strOfNums_size l0
    have hg := get_ev l0 hb (by omega) most hmost
    have hr := refget_ev (strOfNums l0) (by omega) most hmost
    rw [hby] at hr
    have ha : Ev (fun k => blob_All.f k l0 most) (bfin [] (ball (l0.length + 1) l0 most)) := ball_ev most hmost (l0.length + 1) l0 [] hb (by omega) (by simp only [List.length_nil]; omega)
    have hra : Ev (fun k => tachographref02_All.f k (strOfNums l0) most) (bfin [] (ball (l0.length + 1) (bytesOf (strOfNums l0)) most)) := refball_ev most hmost (l0.length + 1) (strOfNums l0) [] (by omega) (by simp only [List.length_nil]; omega)
    rw [hby] at hra
    have hbl : (bfin [] (ball (l0.length + 1) l0 most)).1.length < 4611686018427387904 := by
      have := ball_len most (l0.length + 1) l0
      unfold bfin
      split
      · simp only [List.nil_append]; omega
      · simp
    have hs := same_self _ hbl
    refine Ev.congr (fun k => by unfold tachographlaw02_BlobGets.f; rw [if_neg h]) (Ev.bind hg (Ev.bind hr (Ev.bind ha (Ev.bind hra ?_))))
    refine Ev.congr (fun k => by rw [if_pos rfl, if_pos rfl, if_pos rfl]) (Ev.bind hs ?_)
    refine Ev.congr (fun k => by rw [if_pos rfl]) (Ev.step (f := fun _ => some true) (fun k => ?_) (Ev.now _))
    simp only [tachographlaw02_BlobGets.j0, fixed02, bne_self_eq_false]
    rw [if_neg (by simp), Option.bind_some, if_pos rfl]
    by_cases h0 : (bget l0 most).2.2 = 0
    · obtain ⟨t, z, e, hq⟩ : ∃ t z e, bget l0 most = (t, z, e) := ⟨_, _, _, rfl⟩
      rw [hq] at h0 ⊢
      dsimp only at h0 ⊢
      subst h0
      obtain ⟨rfl, hle, htk, _⟩ := bget_back hb hq
      have hlen := bbytes_len t
      rw [if_pos rfl, if_pos (by omega), put_bytes [] t (by simp) (by omega), Option.bind_some, if_pos (by omega), Int.toNat_natCast, htk, List.nil_append]
      simp
    · rw [if_neg h0]

end Go.Proofs.Ytjfklfmfeghjnaa.Pure
