/- dict.Put of a new text, walked (printed by wip/tools/gen_dictput.py over the kit's regions.py). -/
import Derived.Test.YtmmfakdncjeoeaaDictWalk
import Derived.Test.YtmmfakdncjeoeaaProg
import Derived.Below
import Derived.Deep.Draws
import Derived.Deep.AppendLies
import Derived.Maps.AppendAt
import Derived.OwnWalk
import Derived.Laws.BytesArg
import Derived.Laws.MakeOwn
import Derived.Laws.OwnMore
import Derived.Deep.OwnRows
import Derived.Tactics
import Derived.Laws.Slices
import Derived.WalkKit
import Derived.KernelRfl
import Derived.RowKit3
import Derived.WideLaws
import Derived.Laws.Rows
import Derived.RowKit
import Derived.OwnWalkIn
import Derived.TacticsInMore
import Derived.Lib.Hide
import Derived.IntWalk
import Derived.WalkSpells
import Derived.Test.YtmmfakdncjeoeaaDict
import Derived.Test.YtmmfakdncjeoeaaWTab
import Derived.Test.YtmmfakdncjeoeaaWFour
import Derived.Test.YtmmfakdncjeoeaaWMore
import Derived.Test.YtmmfakdncjeoeaaWLast
namespace Go.Proofs.YtmmfakdncjeoeaaAid
open Go Go.RowKit Go.Maps Go.ChangeMaps Go.MapKept
open Go.Proofs.YtmmfakdncjeoeaaW.PrintWords Go.Proofs.YtmmfakdncjeoeaaW.PrintWords.Kd Go.Proofs.YtmmfakdncjeoeaaW.PrintLast Go.Proofs.YtmmfakdncjeoeaaW.PrintMore
set_option linter.unusedVariables false
set_option linter.unusedSimpArgs false


set_option maxHeartbeats 8000000 in
set_option maxRecDepth 100000 in
theorem dict_put_new {w0 w : World} {g gm : Nat} {A : Option Addr} {c : Nat} {l : List ByteArray} (h : DictAt w0 w g gm A c l) (hB : Below w0.heap.size w0 w) (s : ByteArray) (hs : s.size ≤ 9223372036854775807) (hm : s ∉ l) (hl : l.length < 8796093022208) :
    Calls Try.prog 74 #[.pointer (some ⟨g, 0, none⟩), .string s] w fun e w' => ∃ (A' : Option Addr) (c' : Nat), e = .returned (.int .i64 (l.length : Int)) ∧ DictAt w0 w' g gm A' c' (l ++ [s]) ∧ Below w0.heap.size w0 w' ∧ w.heap.size ≤ w'.heap.size ∧ DictKeep w w' g gm A l.length c ∧ ((Value.slice A' (l ++ [s]).length c').ownBlock = (Value.slice A l.length c).ownBlock ∨ ∃ b, (Value.slice A' (l ++ [s]).length c').ownBlock = some b ∧ w.heap.size ≤ b) := by
  have HBW := Lib.hid hB
  have HD := Lib.hid h
  have HM := Lib.hid h.2.2.2.1
  have HR := Lib.hid h.2.2.2.2.1
  have HB := Lib.hid h.1
  have HS := Lib.hid hs
  have HL := Lib.hid hl
  have HNEW := Lib.hid hm
  have HGG := Lib.hid (show g ≠ gm from by
    obtain ⟨D, ⟨es, clock, hb, _⟩, _⟩ := HM.out
    rintro rfl
    have := HB.out
    rw [hb] at this
    cases this)
  have hblk : ∀ k, (Value.slice A l.length c).ownBlock = some k → ∃ cells, w.heap[k]? = some (.cells cells 9 (0, 0)) := fun k hk => by
    obtain ⟨_, _, _, q, hq, cells, hc⟩ := (Kd.R_bound HR.out).1 k hk
    have hq' : q = 9 := by simpa [Kd.string, Kd.scalar] using hq
    subst hq'
    exact ⟨cells, hc⟩
  have HNG := Lib.hid (show some g ≠ (Value.slice A l.length c).ownBlock from fun e => by
    obtain ⟨cells, hc⟩ := hblk g e.symm
    have := HB.out
    rw [hc] at this
    injection this with this
    injection this with _ this
    exact absurd this (by decide))
  have HNM := Lib.hid (show some gm ≠ (Value.slice A l.length c).ownBlock from fun e => by
    obtain ⟨cells, hc⟩ := hblk gm e.symm
    obtain ⟨D, ⟨es, clock, hb, _⟩, _⟩ := HM.out
    rw [hb] at hc
    cases hc)
  have hx0 : w.cell? ⟨g, 0, none⟩ = some (.map (some gm)) := (blk_cell HB.out 0).trans rfl
  have hx1 : w.cell? ⟨g, 1, none⟩ = some (.slice A l.length c) := (blk_cell HB.out 1).trans rfl
  have hmb : decide (s ∈ l) = false := decide_eq_false hm
  clear h hs hB hl hm hblk
  go_enter Try.func74, Try.ntmps74
  go_wp2_with (first | (at_lookup; refine place_event dkeys rfl _ _ 141 rfl Try.underlying141 Try.underlying3 ?hz (b := gm) (acc := l) rfl HM.out s HS.out rfl ?_; (case hz => kernel_rfl); rw [hmb, if_neg HNEW.out]))
  refine start_ (n := 20) (S := fun w' => w'.cell? ⟨g, 0, none⟩ = some (.map (some gm)) ∧ w'.cell? ⟨g, 1, none⟩ = some (.slice A l.length c)) (ds := [19]) #[false, false, false, false, false, false, false, false, false, false, false, false, false, false, false, false, false, false, false, false] (by kernel_rfl) rfl rfl ⟨(blk_cell (blk_drew HB.out) 0).trans rfl, (blk_cell (blk_drew HB.out) 1).trans rfl⟩ (fun hHeld => ?_)
  refine pure_ (i := 0) (N := some 24) (v := ?_) (a' := ?_) #[true, false, false, false, false, false, false, false, false, false, false, false, false, false, false, false, false, false, false, false] rfl rfl (by kernel_rfl) (fun _ _ _ h => h) (Or.inl ⟨by rfl, ?_⟩) ?_ ?_
  rotate_left
  · intro w'
    go_simp
    with_reducible rfl
  rotate_left
  · simp only [Act.put, List.setIfInBounds_toArray, List.set_cons_zero, List.set_cons_succ, i64_w, i32_w]
    rfl
  refine pure_ (i := 1) (N := some 25) (v := ?_) (a' := ?_) #[true, true, false, false, false, false, false, false, false, false, false, false, false, false, false, false, false, false, false, false] rfl rfl (by kernel_rfl) (fun _ _ _ h => h) (Or.inl ⟨by rfl, ?_⟩) ?_ ?_
  rotate_left
  · intro w'
    go_simp
    with_reducible rfl
  rotate_left
  · simp only [Act.put, List.setIfInBounds_toArray, List.set_cons_zero, List.set_cons_succ, i64_w, i32_w]
    rfl
  refine pure_ (i := 2) (N := some 26) (v := ?_) (a' := ?_) #[true, true, true, false, false, false, false, false, false, false, false, false, false, false, false, false, false, false, false, false] rfl rfl (by kernel_rfl) (fun _ _ _ h => h) (Or.inl ⟨by rfl, ?_⟩) ?_ ?_
  rotate_left
  · intro w'
    go_simp
    with_reducible rfl
  rotate_left
  · simp only [Act.put, List.setIfInBounds_toArray, List.set_cons_zero, List.set_cons_succ, i64_w, i32_w]
    rfl
  refine pure_ (i := 4) (N := some 28) (v := ?_) (a' := ?_) #[true, true, true, false, true, false, false, false, false, false, false, false, false, false, false, false, false, false, false, false] rfl rfl (by kernel_rfl) (fun _ _ _ h => h) (Or.inl ⟨by rfl, ?_⟩) ?_ ?_
  rotate_left
  · intro w'
    go_simp
    with_reducible rfl
  rotate_left
  · simp only [Act.put, List.setIfInBounds_toArray, List.set_cons_zero, List.set_cons_succ, i64_w, i32_w]
    rfl
  refine pure_ (i := 5) (N := some 29) (v := ?_) (a' := ?_) #[true, true, true, false, true, true, false, false, false, false, false, false, false, false, false, false, false, false, false, false] rfl rfl (by kernel_rfl) (fun _ _ _ h => h) (Or.inl ⟨by rfl, ?_⟩) ?_ ?_
  rotate_left
  · intro w'
    go_simp
    with_reducible rfl
  rotate_left
  · simp only [Act.put, List.setIfInBounds_toArray, List.set_cons_zero, List.set_cons_succ, i64_w, i32_w]
    rfl
  refine pure_ (i := 6) (N := some 30) (v := ?_) (a' := ?_) #[true, true, true, false, true, true, true, false, false, false, false, false, false, false, false, false, false, false, false, false] rfl rfl (by kernel_rfl) (fun _ _ _ h => h) (Or.inl ⟨by rfl, ?_⟩) ?_ ?_
  rotate_left
  · intro w'
    go_simp
    with_reducible rfl
  rotate_left
  · simp only [Act.put, List.setIfInBounds_toArray, List.set_cons_zero, List.set_cons_succ, i64_w, i32_w]
    rfl
  refine pure_ (i := 7) (N := some 31) (v := ?_) (a' := ?_) #[true, true, true, false, true, true, true, true, false, false, false, false, false, false, false, false, false, false, false, false] rfl rfl (by kernel_rfl) (fun _ _ _ h => h) (Or.inl ⟨by rfl, ?_⟩) ?_ ?_
  rotate_left
  · intro w'
    go_simp
    with_reducible rfl
  rotate_left
  · simp only [Act.put, List.setIfInBounds_toArray, List.set_cons_zero, List.set_cons_succ, i64_w, i32_w]
    rfl
  refine pure_ (i := 8) (N := some 32) (v := ?_) (a' := ?_) #[true, true, true, false, true, true, true, true, true, false, false, false, false, false, false, false, false, false, false, false] rfl rfl (by kernel_rfl) (fun _ _ _ h => h) (Or.inl ⟨by rfl, ?_⟩) ?_ ?_
  rotate_left
  · intro w'
    go_simp
    with_reducible rfl
  rotate_left
  · simp only [Act.put, List.setIfInBounds_toArray, List.set_cons_zero, List.set_cons_succ, i64_w, i32_w]
    rfl
  refine pure_ (i := 9) (N := some 33) (v := ?_) (a' := ?_) #[true, true, true, false, true, true, true, true, true, true, false, false, false, false, false, false, false, false, false, false] rfl rfl (by kernel_rfl) (fun _ _ _ h => h) (Or.inl ⟨by rfl, ?_⟩) ?_ ?_
  rotate_left
  · intro w'
    go_simp
    with_reducible rfl
  rotate_left
  · simp only [Act.put, List.setIfInBounds_toArray, List.set_cons_zero, List.set_cons_succ, i64_w, i32_w]
    rfl
  refine pure_ (i := 11) (N := some 35) (v := ?_) (a' := ?_) #[true, true, true, false, true, true, true, true, true, true, false, true, false, false, false, false, false, false, false, false] rfl rfl (by kernel_rfl) (fun _ _ _ h => h) (Or.inl ⟨by rfl, ?_⟩) ?_ ?_
  rotate_left
  · intro w'
    go_simp
    with_reducible rfl
  rotate_left
  · simp only [Act.put, List.setIfInBounds_toArray, List.set_cons_zero, List.set_cons_succ, i64_w, i32_w]
    rfl
  refine take_ (i := 3) (N := some 27) (v := ?_) (a' := ?_) #[true, true, true, true, true, true, true, true, true, true, false, true, false, false, false, false, false, false, false, false] rfl rfl (by kernel_rfl) (fun _ _ _ h => h) (Or.inl ⟨by rfl, ?_⟩) hHeld ?_ ?_
  rotate_left
  · rintro w' ⟨s0, s1⟩
    go_simp
    with_reducible rfl
  rotate_left
  · simp only [Act.put, List.setIfInBounds_toArray, List.set_cons_zero, List.set_cons_succ, i64_w, i32_w]
    rfl
  refine take_ (i := 10) (N := some 34) (v := ?_) (a' := ?_) #[true, true, true, true, true, true, true, true, true, true, true, true, false, false, false, false, false, false, false, false] rfl rfl (by kernel_rfl) (fun _ _ _ h => h) (Or.inl ⟨by rfl, ?_⟩) hHeld ?_ ?_
  rotate_left
  · rintro w' ⟨s0, s1⟩
    go_simp
    with_reducible rfl
  rotate_left
  · simp only [Act.put, List.setIfInBounds_toArray, List.set_cons_zero, List.set_cons_succ, i64_w, i32_w]
    rfl
  refine one_ (i := 12) (N := some 36) #[true, true, true, true, true, true, true, true, true, true, true, true, true, false, false, false, false, false, false, false] rfl rfl (by kernel_rfl) (by decide) (fun K hK => ?_)
  refine value_ (w1 := ?_) (v := ?_) (by rfl) rfl ?_ ?_
  rotate_left 2
  · go_simp
    constructor
    · rfl
    · rfl
  refine hK.out _ _ ⟨(blk_cell (blk_alloc (blk_drew HB.out) _) 0).trans rfl, (blk_cell (blk_alloc (blk_drew HB.out) _) 1).trans rfl⟩ (fun hHeld => ?_)
  clear hK K
  refine norm_ (a' := ?_) ?_ ?_
  rotate_left
  · show Act.put _ (some 36) _ = _
    simp only [Act.put, List.setIfInBounds_toArray, List.set_cons_zero, List.set_cons_succ, i64_w, i32_w]
    rfl
  refine one_ (i := 13) (N := some 37) #[true, true, true, true, true, true, true, true, true, true, true, true, true, true, false, false, false, false, false, false] rfl rfl (by kernel_rfl) (by decide) (fun K hK => ?_)
  refine Kd.R_append_step Kd.string (w0 := w0) (W := w.drew) w0.heap.size (by rfl) (.tmp 34) (.tmp 36) 66 9 (.string ⟨#[]⟩) 16 rfl Try.underlying66 dict_info rfl (by decide) (by omega) (.slice A l.length c) l s [.string s] (fun _ => True) (fun _ => False) rfl rfl ?aP (fun _ hk => hk.elim) ?aF ?aO ?aB ?aS ?aL ?_
  case aP => exact rfl
  case aF => exact fun _ _ => trivial
  case aO => exact Kd.R_drew (Kd.R_mono HR.out (fun _ _ => trivial))
  case aB => exact below_drew1 HBW.out
  case aS => exact HBW.out.size
  case aL => have := HL.out; omega
  intro v37 w37 ho_ hb_ hg_ hat_
  obtain ⟨A37, c37, e37⟩ := Kd.R_slice ho_
  subst e37
  have HO := Lib.hid ho_
  have HBA := Lib.hid hb_
  have HG := Lib.hid hg_
  have HAT := Lib.hid hat_
  clear ho_ hb_ hg_ hat_
  have HB37 := Lib.hid (blk_grown (blk_drew HB.out) HG.out HNG.out)
  have HM37 := Lib.hid ((HM.out.drew).grown HG.out HNM.out)
  refine hK.out _ _ ⟨(blk_cell HB37.out 0).trans rfl, (blk_cell HB37.out 1).trans rfl⟩ (fun hHeld => ?_)
  clear hK K
  refine norm_ (a' := ?_) ?_ ?_
  rotate_left
  · show Act.put _ (some 37) _ = _
    simp only [Act.put, List.setIfInBounds_toArray, List.set_cons_zero, List.set_cons_succ, i64_w, i32_w]
    rfl
  refine one_ (i := 14) (N := some 38) #[true, true, true, true, true, true, true, true, true, true, true, true, true, true, true, false, false, false, false, false] rfl rfl (by kernel_rfl) (by decide) (fun K hK => ?_)
  obtain ⟨v38, st, m1, m2, hr1, hr2, hr3⟩ := entry_places (t := 141) dkeys (WideMaps.string_law Try.underlying9) Try.underlying141 Try.underlying3 dict_zero HM37.out (by have := HL.out; omega) s HS.out HNEW.out
  have HR1 := Lib.hid hr1
  have HR2 := Lib.hid hr2
  have HR3 := Lib.hid hr3
  clear hr1 hr2 hr3
  refine value_ (w1 := setBlock w37 gm m1) (v := .tuple #[v38, goInt st]) (by rfl) rfl ?_ ?_
  · exact run_entry rfl rfl rfl HR1.out
  have HB38 := Lib.hid ((setBlock_other w37 gm g m1 HGG.out).trans HB37.out)
  refine hK.out _ _ ⟨(blk_cell HB38.out 0).trans rfl, (blk_cell HB38.out 1).trans rfl⟩ (fun hHeld => ?_)
  clear hK K
  refine norm_ (a' := ?_) ?_ ?_
  rotate_left
  · show Act.put _ (some 38) _ = _
    simp only [Act.put, List.setIfInBounds_toArray, List.set_cons_zero, List.set_cons_succ, i64_w, i32_w]
    rfl
  refine pure_ (i := 15) (N := some 39) (v := ?_) (a' := ?_) #[true, true, true, true, true, true, true, true, true, true, true, true, true, true, true, true, false, false, false, false] rfl rfl (by kernel_rfl) (fun _ _ _ h => h) (Or.inl ⟨by rfl, ?_⟩) ?_ ?_
  rotate_left
  · intro w'
    go_simp
    with_reducible rfl
  rotate_left
  · simp only [Act.put, List.setIfInBounds_toArray, List.set_cons_zero, List.set_cons_succ, i64_w, i32_w]
    rfl
  refine one_ (i := 16) (N := none) #[true, true, true, true, true, true, true, true, true, true, true, true, true, true, true, true, true, false, false, false] rfl rfl (by kernel_rfl) (by decide) (fun K hK => ?_)
  refine skip_ (w1 := setBlock (setBlock w37 gm m1) gm m2) (by rfl) rfl ?_ ?_
  · exact run_estore rfl rfl rfl rfl (HR2.out _ (setBlock_same w37 gm m1 HM37.out.keys.lt))
  have HB39 := Lib.hid ((setBlock_other _ gm g m2 HGG.out).trans HB38.out)
  refine hK.out _ _ ⟨(blk_cell HB39.out 0).trans rfl, (blk_cell HB39.out 1).trans rfl⟩ (fun hHeld => ?_)
  clear hK K
  refine pure_ (i := 17) (N := some 40) (v := ?_) (a' := ?_) #[true, true, true, true, true, true, true, true, true, true, true, true, true, true, true, true, true, true, false, false] rfl rfl (by kernel_rfl) (fun _ _ _ h => h) (Or.inl ⟨by rfl, ?_⟩) ?_ ?_
  rotate_left
  · intro w'
    go_simp
    with_reducible rfl
  rotate_left
  · simp only [Act.put, List.setIfInBounds_toArray, List.set_cons_zero, List.set_cons_succ, i64_w, i32_w]
    rfl
  refine pure_ (i := 18) (N := some 41) (v := ?_) (a' := ?_) #[true, true, true, true, true, true, true, true, true, true, true, true, true, true, true, true, true, true, true, false] rfl rfl (by kernel_rfl) (fun _ _ _ h => h) (Or.inl ⟨by rfl, ?_⟩) ?_ ?_
  rotate_left
  · intro w'
    go_simp
    with_reducible rfl
  rotate_left
  · simp only [Act.put, List.setIfInBounds_toArray, List.set_cons_zero, List.set_cons_succ, i64_w, i32_w]
    rfl
  refine last_ (i := 19) (N := none) #[true, true, true, true, true, true, true, true, true, true, true, true, true, true, true, true, true, true, true, true] rfl rfl (by kernel_rfl) (by decide) (fun K hK => ?_)
  refine skip_ (w1 := (setBlock (setBlock w37 gm m1) gm m2).setCell ⟨g, 1, none⟩ (.slice A37 (l ++ [s]).length c37)) (by rfl) rfl ?_ ?_
  · have hc1 := (blk_cell HB39.out 1).trans rfl
    have hf1 := blk_frozen HB39.out 1
    go_simp
  refine hK.out _ _ ?_
  clear hK K
  refine done_ (by kernel_rfl) ?_
  go_wp2
  go_ret
  have HN37 := Lib.hid (show ∀ k, (Value.slice A37 (l ++ [s]).length c37).ownBlock = some k → k ≠ g ∧ k ≠ gm from fun k hk => by
    obtain ⟨_, _, _, q, hq, cells, hc⟩ := (Kd.R_bound HO.out).1 k hk
    have hq' : q = 9 := by simpa [Kd.string, Kd.scalar] using hq
    subst hq'
    refine ⟨fun e => ?_, fun e => ?_⟩
    · subst e
      have := HB37.out
      rw [hc] at this
      injection this with this
      injection this with _ this
      exact absurd this (by decide)
    · subst e
      obtain ⟨D, ⟨es, clock, hb, _⟩, _⟩ := HM37.out
      rw [hb] at hc
      cases hc)
  refine ⟨A37, c37, rfl, ⟨?_, HD.out.2.1, HD.out.2.2.1, ?_, ?_, ?_⟩, ?_, ?_, ?_, HAT.out⟩
  · exact blk_put HB39.out 1 _ rfl
  · exact (HR3.out _ (setBlock_same _ gm m2 (by rw [setBlock_size]; exact HM37.out.keys.lt))).set (Ne.symm HGG.out) _
  · refine Kd.R_step (Kd.R_tight rfl HO.out) (fun k hk _ => ?_)
    obtain ⟨h1, h2⟩ := HN37.out k hk.symm
    exact (Below.heap_setCell _ _ _ k h1).trans ((setBlock_other _ gm k m2 h2).trans (setBlock_other _ gm k m1 h2))
  · exact List.nodup_append.2 ⟨HD.out.2.2.2.2.2, by simp, fun a ha b hb => by simp only [List.mem_singleton] at hb; subst hb; exact fun e => HNEW.out (e ▸ ha)⟩
  · exact below_set (below_setBlock (below_setBlock HBA.out HD.out.2.2.1 _) HD.out.2.2.1 _) HD.out.2.1
  · have h_ := HG.out.size
    simp only [World.setCell, setBlock, Array.size_modify, Array.size_setIfInBounds]
    exact h_
  · intro k hk h1 h2 h3
    exact (Below.heap_setCell _ _ _ k h1).trans ((setBlock_other _ gm k m2 h2).trans ((setBlock_other _ gm k m1 h2).trans (HG.out.block k hk h3)))
end Go.Proofs.YtmmfakdncjeoeaaAid
