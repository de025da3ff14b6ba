/- DfacodeGets: its contract over what came in. Own text. -/
import Derived.Test.YtokdggmobhnnpaaHGets
namespace Go.Proofs.Ytokdggmobhnnpaa
open Go.RowKit Go.Proofs.Ytokdggmobhnnpaa.P Go.Proofs.Ytokdggmobhnnpaa.Enc Go.Proofs.YtokdggmobhnnpaaW.PrintWords
set_option linter.unusedVariables false
theorem dfacodeGets_c {w : World} {vb : Value} {b : List Int} {right : Bool} (hB : IsB w vb b) (hb : Bts b) :
    Calls Try.prog 4 #[vb, .bool right] w fun e w' => e = .returned (.bool true) ∧ Below w.heap.size w w' := by
  obtain ⟨A', c', rfl, h2', h3'⟩ := hB
  exact gets_c h3' h2' hb
end Go.Proofs.Ytokdggmobhnnpaa
