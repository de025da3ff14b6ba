/- DERIVED, printed by a program of this session (wip/pprint.py over the kit's print), with some callees' contracts proved by hand. Lean checks it. -/
import Derived.Test.YtokdggmobhnnpaaP0
namespace Go.Proofs.Ytokdggmobhnnpaa.P
open Go.RowKit Go.Proofs.YtokdggmobhnnpaaW.PrintWords Go.Proofs.YtokdggmobhnnpaaW.PrintLast Go.Proofs.YtokdggmobhnnpaaW.PrintMore
attribute [local go_sem] max2_int min2_int max_two min_two max_three min_three max_four min_four   -- for this text's walks alone
set_option linter.unusedVariables false
set_option linter.unusedSimpArgs false

theorem eqA59 (d : Nat) (w : World) (x0 y0 : Int) (x1 y1 : Int) (x2 y2 : Int) :
    (Op.equalIn (d + 2) 59 (.agg #[.int .u8 x0, .int .u8 x1, .int .i64 x2]) (.agg #[.int .u8 y0, .int .u8 y1, .int .i64 y2])).run Try.prog w = .ok (x0 == y0 && (x1 == y1 && (x2 == y2))) w := by
  refine eqA_of Try.underlying59 (by kernel_rfl) ?_
  refine eqf_cons (by rfl) (by go_simp; rfl) (by go_simp; rfl) (by go_simp) ?_
  refine eqf_cons (by rfl) (by go_simp; rfl) (by go_simp; rfl) (by go_simp) ?_
  exact eqf_last (by rfl) (by go_simp; rfl) (by go_simp; rfl) (by go_simp)
end Go.Proofs.Ytokdggmobhnnpaa.P
