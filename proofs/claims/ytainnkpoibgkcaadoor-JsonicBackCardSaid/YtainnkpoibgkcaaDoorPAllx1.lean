-- Written by a program out of the translation, for several roots at once (set All). Not trusted: Lean checks it.
import Derived.Test.YtainnkpoibgkcaaDoorPAllx0
namespace Go.Proofs.YtainnkpoibgkcaaDoor.PAll
open Go.RowKit Go.Proofs.YtainnkpoibgkcaaDoorW.PrintWords Go.Proofs.YtainnkpoibgkcaaDoorW.PrintLast Go.Proofs.YtainnkpoibgkcaaDoorW.PrintMore
attribute [local go_sem] max2_int min2_int max_two min_two max_three min_three max_four min_four   -- for this text's walks alone
set_option linter.unusedVariables false
set_option linter.unusedSimpArgs false

theorem eqA34 (d : Nat) (w : World) (x0 y0 : Int) (x1 y1 : Int) :
    (Op.equalIn (d + 2) 34 (.agg #[.int .i64 x0, .int .i64 x1]) (.agg #[.int .i64 y0, .int .i64 y1])).run Tryd.prog w = .ok (x0 == y0 && (x1 == y1)) w := by
  refine eqA_of Tryd.underlying34 (by kernel_rfl) ?_
  refine eqf_cons (by rfl) (by go_simp; rfl) (by go_simp; rfl) (by go_simp) ?_
  exact eqf_last (by rfl) (by go_simp; rfl) (by go_simp; rfl) (by go_simp)
end Go.Proofs.YtainnkpoibgkcaaDoor.PAll
