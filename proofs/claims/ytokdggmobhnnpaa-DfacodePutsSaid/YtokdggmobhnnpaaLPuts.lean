/- DfacodePuts: its contract over what came in. Own text. -/
import Derived.Test.YtokdggmobhnnpaaHPuts
namespace Go.Proofs.Ytokdggmobhnnpaa
open Go.RowKit Go.Proofs.Ytokdggmobhnnpaa.P Go.Proofs.Ytokdggmobhnnpaa.Enc Go.Proofs.YtokdggmobhnnpaaW.PrintWords
set_option linter.unusedVariables false
theorem dfacodePuts_c {w : World} {v vb : Value} {m : List S57} {n : Int} {b : List Int} (h : IsM w v m) (hS : ∀ s ∈ m, StB s) (hn : 0 ≤ n ∧ n < 18446744073709551616) (hB : IsB w vb b) (hb : Bts b) :
    Calls Try.prog 3 #[v, .int .u64 n, vb] w fun e w' => e = .returned (.bool true) ∧ Below w.heap.size w w' := by
  obtain ⟨A, c, rfl, h2, h3⟩ := h
  obtain ⟨A', c', rfl, h2', h3'⟩ := hB
  exact puts_c h3 h2 hS hn h3' h2' hb
end Go.Proofs.Ytokdggmobhnnpaa
