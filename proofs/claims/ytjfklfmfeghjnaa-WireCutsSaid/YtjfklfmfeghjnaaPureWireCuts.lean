/- Proved: tachographlaw01.WireCuts answers true at every number and place: of a number's bytes, cut off anywhere, none is read: ErrShort. Conditions: none. -/
import Derived.Test.YtjfklfmfeghjnaaMWire
namespace Go.Proofs.Ytjfklfmfeghjnaa.Pure
open Go.RowKit Go.Proofs.Ytjfklfmfeghjnaa.PWire Go.Proofs.Ytjfklfmfeghjnaa.MWire Go.Proofs.YtjfklfmfeghjnaaW.PrintWords Go.Proofs.YtjfklfmfeghjnaaW.PrintLast

theorem WireCuts : tachographlaw01_WireCuts.Pure := by
  intro a0 a1 h0 h1
  obtain ⟨h0, h0'⟩ := wf_u64 h0
  have h1' : 0 ≤ a1 ∧ a1 ≤ 255 := by simpa [Lit.wf, IntKind.min, IntKind.max, IntKind.bits, IntKind.signed] using h1
  obtain ⟨m, rfl⟩ := Int.eq_ofNat_of_zero_le h0
  refine Ev.rounds (r := true) ?_
  have hp : wire_Put.f [] (m : Int) = some (wbytes m) := by
    unfold wire_Put.f
    rw [if_pos ⟨by simp, by omega, by omega⟩]
    rfl
  have hpos := wbytes_pos m
  have e1 : wrap64 a1 = a1 := w64 (by omega) (by omega)
  have e2 : Int.tmod a1 ((wbytes m).length : Int) = a1 % ((wbytes m).length : Int) := Int.tmod_eq_emod_of_nonneg (by omega)
  have hlo : 0 ≤ a1 % ((wbytes m).length : Int) := Int.emod_nonneg _ (by omega)
  have hhi : a1 % ((wbytes m).length : Int) < ((wbytes m).length : Int) := Int.emod_lt_of_pos _ (by omega)
  have hg := get_ev ((wbytes m).take (a1 % ((wbytes m).length : Int)).toNat) ((wbytes_byt m).take _)
  rw [wget_cut m (by omega) _ (by omega)] at hg
  refine Ev.congr (f := fun k => (wire_Get.f k ((wbytes m).take (a1 % ((wbytes m).length : Int)).toNat)).bind fun b => (tachographlaw01_fixed.f).bind fun t => if t = true then (if b.1 = 0 then (if b.2.1 = 0 then some (b.2.2 == 2) else some false) else some false) else some false) (fun k => ?_) (Ev.bind hg ?_)
  · unfold tachographlaw01_WireCuts.f
    rw [hp]
    simp only [Option.bind_some]
    rw [if_neg (by omega), e1, e2, if_pos hlo, if_pos (by omega)]
  · refine Ev.congr (f := fun _ => some true) (fun k => ?_) (Ev.now _)
    rw [fixed01]
    rfl

end Go.Proofs.Ytjfklfmfeghjnaa.Pure
