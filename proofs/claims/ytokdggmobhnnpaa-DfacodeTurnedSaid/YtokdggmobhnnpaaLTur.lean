/- DfacodeTurned: its contract over what came in. Own text. -/
import Derived.Test.YtokdggmobhnnpaaHTur
namespace Go.Proofs.Ytokdggmobhnnpaa
open Go.RowKit Go.Proofs.Ytokdggmobhnnpaa.P Go.Proofs.Ytokdggmobhnnpaa.Enc Go.Proofs.YtokdggmobhnnpaaW.PrintWords
set_option linter.unusedVariables false
theorem dfacodeTurned_c {w : World} {v : Value} {m : List S57} {a b : Int} (h : IsM w v m) (hS : ∀ s ∈ m, StB s) (hb : (Lit.int .u8 b).wf = true) :
    Calls Try.prog 6 #[v, .int .i64 a, .int .u8 b] w fun e w' => e = .returned (.bool true) ∧ Below w.heap.size w w' := by
  obtain ⟨A, c, rfl, h2, h3⟩ := h
  exact turned_c h3 h2 hS (bounds_u8 hb)
end Go.Proofs.Ytokdggmobhnnpaa
