-- Contracts of Go functions, each with its plain Lean function: written by wip/tools/myprint.py of this work (the kit's print, with contracts proved by hand spliced in).
import Derived.Test.YtjfklfmfeghjnabPTx0
namespace Go.Proofs.Ytjfklfmfeghjnab.PT
open Go.RowKit Go.Proofs.YtjfklfmfeghjnabW.PrintWords Go.Proofs.YtjfklfmfeghjnabW.PrintLast Go.Proofs.YtjfklfmfeghjnabW.PrintMore
attribute [local go_sem] max2_int min2_int max_two min_two max_three min_three max_four min_four   -- for this text's walks alone
set_option linter.unusedVariables false
set_option linter.unusedSimpArgs false

theorem eqA57 (d : Nat) (w : World) (x0 y0 : Int) (x1 y1 : Int) (x2 y2 : Int) :
    (Op.equalIn (d + 2) 57 (.agg #[.int .i64 x0, .int .i64 x1, .int .i64 x2]) (.agg #[.int .i64 y0, .int .i64 y1, .int .i64 y2])).run Try.prog w = .ok (x0 == y0 && (x1 == y1 && (x2 == y2))) w := by
  obtain ⟨i, hi⟩ := info_of_underlying Try.underlying3
  have hc : Try.prog.cellsOf 3 = 1 := by kernel_rfl
  have hp : Try.prog.plainKey 3 = true := by kernel_rfl
  rw [run_equalIn_array w (d + 1) _ _ Try.underlying57 hi, hc, show List.range 3 = [0, 1, 2] from rfl]
  have e : ∀ (x y : Int) (w : World), (Op.equalIn (d + 1) 3 (.int .i64 x) (.int .i64 y)).run Try.prog w = .ok (x == y) w := fun x y w => by go_simp
  simp only [Op.eqItems, Sem.run_bind, run_part_plain _ hp (xs := #[.int .i64 x0, .int .i64 x1, .int .i64 x2]) (off := 0 * 1) rfl, run_part_plain _ hp (xs := #[.int .i64 x0, .int .i64 x1, .int .i64 x2]) (off := 1 * 1) rfl, run_part_plain _ hp (xs := #[.int .i64 x0, .int .i64 x1, .int .i64 x2]) (off := 2 * 1) rfl, run_part_plain _ hp (xs := #[.int .i64 y0, .int .i64 y1, .int .i64 y2]) (off := 0 * 1) rfl, run_part_plain _ hp (xs := #[.int .i64 y0, .int .i64 y1, .int .i64 y2]) (off := 1 * 1) rfl, run_part_plain _ hp (xs := #[.int .i64 y0, .int .i64 y1, .int .i64 y2]) (off := 2 * 1) rfl, e, Result.andThen_ok]
  cases hx : (x0 == y0) <;> cases hy : (x1 == y1) <;> cases hz : (x2 == y2) <;> simp_all [go_sem]
end Go.Proofs.Ytjfklfmfeghjnab.PT
