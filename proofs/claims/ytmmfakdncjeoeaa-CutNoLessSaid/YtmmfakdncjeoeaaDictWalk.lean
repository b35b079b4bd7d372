/- dict.New, Put, Find, Text, All, walked: what each answers, and what becomes of the dictionary's blocks. -/
import Derived.Test.YtmmfakdncjeoeaaProg
import Derived.Below
import Derived.Deep.Draws
import Derived.Deep.AppendLies
import Derived.Maps.AppendAt
import Derived.OwnWalk
import Derived.Laws.BytesArg
import Derived.Laws.MakeOwn
import Derived.Laws.OwnMore
import Derived.Deep.OwnRows
import Derived.Tactics
import Derived.Laws.Slices
import Derived.WalkKit
import Derived.KernelRfl
import Derived.RowKit3
import Derived.WideLaws
import Derived.Laws.Rows
import Derived.RowKit
import Derived.OwnWalkIn
import Derived.TacticsInMore
import Derived.Lib.Hide
import Derived.IntWalk
import Derived.WalkSpells
import Derived.Test.YtmmfakdncjeoeaaDict
import Derived.Test.YtmmfakdncjeoeaaWTab
import Derived.Test.YtmmfakdncjeoeaaWFour
import Derived.Test.YtmmfakdncjeoeaaWMore
import Derived.Test.YtmmfakdncjeoeaaWLast
namespace Go.Proofs.YtmmfakdncjeoeaaAid
open Go Go.RowKit Go.Maps Go.ChangeMaps Go.MapKept
open Go.Proofs.YtmmfakdncjeoeaaW.PrintWords Go.Proofs.YtmmfakdncjeoeaaW.PrintWords.Kd Go.Proofs.YtmmfakdncjeoeaaW.PrintLast Go.Proofs.YtmmfakdncjeoeaaW.PrintMore
set_option linter.unusedVariables false
set_option linter.unusedSimpArgs false

set_option maxHeartbeats 8000000 in
set_option maxRecDepth 100000 in
theorem dict_new (w0 w : World) (hB : Below w0.heap.size w0 w) :
    Calls Try.prog 73 #[] w fun e w' => ∃ g_ : Nat, e = .returned (.pointer (some ⟨g_, 0, none⟩)) ∧ IsDict w0 w' g_ [] ∧ Below w.heap.size w w' := by
  have HW0 := Lib.hid hB.size
  clear hB
  go_enter Try.func73, Try.ntmps73
  go_wp2_with (first | ((with_reducible refine gate_dst (N := 1) rfl ?_); refine map_event (k := 9) (e := 3) (ok := dok) (kl := dkl) rfl (N := 1) rfl 141 rfl ?_; intro gm w1 hgm hm hb hg_; have HM := Lib.hid hm; have HBM := Lib.hid hb; have HGM := Lib.hid hgm; clear hm hb hgm hg_) | ((with_reducible refine gate_dst (N := 3) rfl ?_); refine box_event ?hg (N := 3) ?hd (cs := #[.map (some gm), .slice none 0 0]) (t := 143) ?hr ?_; (case hd => rfl); (case hg => rfl); (case hr => first | (go_simp; done) | (go_simp; rfl)); intro g hg w2 hbox hb; have HG := Lib.hid hg; have HBX := Lib.hid hbox; have HBB := Lib.hid hb; clear hg hbox hb))
  go_ret
  refine ⟨g, rfl, ⟨gm, none, 0, HBX.out, ?_, ?_, HM.out.below HBB.out (Nat.le_refl _), Kd.R_nil _ _ _ _ _, List.nodup_nil⟩, below_step HBM.out HBB.out⟩
  · rw [HG.out]; exact Nat.le_trans HW0.out HBM.out.size
  · rw [HGM.out]; exact HW0.out

section
variable {w0 w : World} {g gm : Nat} {A : Option Addr} {c : Nat} {l : List ByteArray}
set_option maxHeartbeats 8000000 in
set_option maxRecDepth 100000 in
theorem dict_put_old (h : DictAt w0 w g gm A c l) (s : ByteArray) (hs : s.size ≤ 9223372036854775807) (hm : s ∈ l) :
    Calls Try.prog 74 #[.pointer (some ⟨g, 0, none⟩), .string s] w fun e w' => e = .returned (.int .i64 (l.idxOf s : Int)) ∧ w' = w := by
  have HM := Lib.hid h.2.2.2.1
  have HB := Lib.hid h.1
  have HS := Lib.hid hs
  have hx0 : w.cell? ⟨g, 0, none⟩ = some (.map (some gm)) := (blk_cell HB.out 0).trans rfl
  clear h hs
  have hmb : decide (s ∈ l) = true := decide_eq_true hm
  have HMM := Lib.hid hm
  clear hm
  go_enter Try.func74, Try.ntmps74
  go_wp2_with (first | (at_lookup; refine place_event dkeys rfl _ _ 141 rfl Try.underlying141 Try.underlying3 ?hz (b := gm) (acc := l) rfl HM.out s HS.out rfl ?_; (case hz => kernel_rfl); rw [hmb, if_pos HMM.out]))
  go_ret
  exact ⟨rfl, rfl⟩
end
theorem setBlock_other (w : World) (b k : Nat) (o : Obj) (h : k ≠ b) : (setBlock w b o).heap[k]? = w.heap[k]? := by
  simp [setBlock, Array.getElem?_setIfInBounds_ne (Ne.symm h)]
theorem setBlock_same (w : World) (b : Nat) (o : Obj) (h : b < w.heap.size) : (setBlock w b o).heap[b]? = some o := by
  simp [setBlock, h]
theorem setBlock_size (w : World) (b : Nat) (o : Obj) : (setBlock w b o).heap.size = w.heap.size := by simp [setBlock]
theorem below_setBlock {B : Nat} {w w1 : World} (h : Below B w w1) {b : Nat} (hb : B ≤ b) (o : Obj) : Below B w (setBlock w1 b o) :=
  ⟨h.os, h.tape, h.output, by rw [setBlock_size]; exact h.size, fun i hi => (setBlock_other w1 b i o (by omega)).trans (h.block i hi)⟩
theorem run_entry {P : Program} {w w1 : World} {o : Oper} {a : Act} {t : TypeId} {m x : Operand} {b : Nat} {key r : Value} (hop : o.op = .mapEntry t m x) (hm : a.eval m = .map (some b)) (hx : a.eval x = key)
    (h : (Instr.mapEntry t (.map (some b)) key).run P w = .ok r w1) : (execOp a.eval o).run P w = .ok (.value r) w1 := by
  unfold execOp
  simp [hop, hm, hx, h, Result.andThen]
theorem run_estore {P : Program} {w w1 : World} {o : Oper} {a : Act} {t : TypeId} {m x y : Operand} {b : Nat} {st v : Value} (hop : o.op = .entryStore t m x y) (hm : a.eval m = .map (some b)) (hx : a.eval x = st) (hy : a.eval y = v)
    (h : (Instr.entryStore t (.map (some b)) st v).run P w = .ok () w1) : (execOp a.eval o).run P w = .ok .skip w1 := by
  unfold execOp
  simp [hop, hm, hx, hy, h, Result.andThen]
theorem dict_info : (Try.prog.info? 9).map (fun i => (i.zero, i.size, i.bytes)) = some (some (.string ⟨#[]⟩), 1, 16) := by kernel_rfl
theorem dict_zero (u : World) : (zeroValue 3).run Try.prog u = .ok (.int .i64 0) u := by kernel_rfl
end Go.Proofs.YtmmfakdncjeoeaaAid
