/- Proved: tachographlaw01.WirePuts answers true at every bytes and number: any number's bytes, behind any others, and how many there are, are the document's; what was handed in stays; they are read as the number, with whatever behind. Conditions: none but the form's own reach. -/
import Derived.Test.YtjfklfmfeghjnaaMWire
namespace Go.Proofs.Ytjfklfmfeghjnaa.Pure
open Go.RowKit Go.Proofs.Ytjfklfmfeghjnaa.PWire Go.Proofs.Ytjfklfmfeghjnaa.MWire Go.Proofs.YtjfklfmfeghjnaaW.PrintWords Go.Proofs.YtjfklfmfeghjnaaW.PrintLast

theorem WirePuts : tachographlaw01_WirePuts.Pure := by
  intro l0 a1 hm _ hw h1
  have hb := byt_wf hw
  obtain ⟨h1, h1'⟩ := wf_u64 h1
  obtain ⟨m, rfl⟩ := Int.eq_ofNat_of_zero_le h1
  have hm64 : m < 18446744073709551616 := by omega
  refine Ev.rounds (r := true) ?_
  by_cases h : (l0.length : Int) > 300
  · refine Ev.congr (f := fun _ => some true) (fun k => ?_) (Ev.now _)
    unfold tachographlaw01_WirePuts.f
    rw [if_pos h, fixed01]
    rfl
  · have hlen := wbytes_le10 hm64
    have hp := put_eq l0 m (by omega) hm64
    have hr := refput_ev m hm64
    have hcat : strOfNums (wbytes m) ++ strOfNums l0 = strOfNums (wbytes m ++ l0) := (strOfNums_append _ _).symm
    have hcat2 : strOfNums l0 ++ strOfNums (wbytes m) = strOfNums (l0 ++ wbytes m) := (strOfNums_append _ _).symm
    have hby : bytesOf (strOfNums (wbytes m ++ l0)) = wbytes m ++ l0 := bytesOf_strOfNums ((wbytes_byt m).append hb)
    have hg := get_ev (wbytes m ++ l0) ((wbytes_byt m).append hb)
    rw [wget_put m hm64 l0] at hg
    have hs : wire_Size.f (m : Int) = some (((wbytes m).length : Nat) : Int) := by
      unfold wire_Size.f
      rw [if_pos ⟨by omega, by omega⟩, Int.toNat_natCast]
    refine Ev.congr (fun k => by unfold tachographlaw01_WirePuts.f; rw [if_neg h, hp, Option.bind_some]) (Ev.bind hr ?_)
    refine Ev.congr (fun k => by rw [if_pos (by rw [strOfNums_size, strOfNums_size]; omega), hcat, if_pos (by rw [strOfNums_size, List.length_append]; omega), hby]) (Ev.bind hg ?_)
    refine Ev.congr (f := fun _ => some true) (fun k => ?_) (Ev.now _)
    rw [fixed01]
    simp only [Option.bind_some]
    rw [if_pos trivial, if_pos (by rw [strOfNums_size, strOfNums_size]; omega), hcat2, if_pos rfl, hs]
    simp only [Option.bind_some]
    rw [if_pos (by rw [strOfNums_size]), if_pos trivial, if_pos (by rw [strOfNums_size])]
    rfl

end Go.Proofs.Ytjfklfmfeghjnaa.Pure
