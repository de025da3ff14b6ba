/-
  No cell of these rows narrows 'for every input' (looked for: loops, veiled, ifaces, maps, wideKeys, modest, calm, conditions, laid).
  DERIVED. THE GIVEN ROWS OF THIS SEAT. 4 by the template 'for every input the law returns true; each argument reads behind the call as it read before'; 0 by the template 'total and deterministic' (their statements: YtimhiacjoplkeaaTotals.lean).
  GIVEN WITH THE SEED: the statements are not yours to turn. If you find one false, say at which input.
  Laid BY PROGRAM, IN A SANDBOX (cutbox-rows.mjs): the forced cells as the released guide's own fill.sh prints them over the translation a2cd05123ad0e42d… (all of the seat's roots in one cut). By AI agents, Wed Nov 11 2026. No macro, syntax, notation, axiom, sorry.
-/
import Derived.Test.YtimhiacjoplkeaaChecked
import GoSem.Claim
import GoSem.ClaimJoined
import GoSem.ClaimMapViews
import Derived.JoinedTies
import Derived.KernelRfl
namespace Go.Proofs.Ytimhiacjoplkeaa
/- THE CELL 'sum', in the pinned program and in every row, IS THE sha256 OF THE DUMP (.gsa) THAT YtimhiacjoplkeaaProg.lean LOADS. Nothing in Lean hashes anything: it is a label: what it is worth is what the hold of that sum in a sandbox is worth. -/
noncomputable def Try.pinned : Pinned := { name := "ytimhiacjoplkeaa", sum := "a2cd05123ad0e42d565095b6e6b82693d5024f43c9b9f0efb6da9b743ee3e44d", checked := Try.checked }
namespace Rows
def none {H : Type} : Left H := { results := [], args := [] }

/-- 'homographlaw04.MatchFinds': WHATEVER THE INPUT: true; the input reads as it did. -/
def matchFindsSpec : ChangeSpec := { name := "matchFinds", fn := fun _ => fun
  | [d1, d2, d3] => { results := [.lit (.bool true)], args := [d1, d2, d3] }
  | _ => none }
def matchFindsRow : OpenClaim := { program := "ytimhiacjoplkeaa", sum := "a2cd05123ad0e42d565095b6e6b82693d5024f43c9b9f0efb6da9b743ee3e44d", func := "homograph/homographlaw04.MatchFinds", spec := "matchFinds", unfollowed := true, recurses := true, apart := false }
def MatchFindsSaid : Prop := matchFindsRow.holds Try.pinned (OpenSpec.ofChange matchFindsSpec)

/-- ITS FALSE NEIGHBOUR: 'it returns false'. Refute it at one input. -/
def matchFindsWrong : ChangeSpec := { name := "matchFinds", fn := fun _ => fun
  | [d1, d2, d3] => { results := [.lit (.bool false)], args := [d1, d2, d3] }
  | _ => none }
def MatchFindsWrongFalsely : Prop := matchFindsRow.holds Try.pinned (OpenSpec.ofChange matchFindsWrong)

/-- 'homographlaw04.MatchSets': WHATEVER THE INPUT: true; the input reads as it did. -/
def matchSetsSpec : ChangeSpec := { name := "matchSets", fn := fun _ => fun
  | [d1, d2, d3] => { results := [.lit (.bool true)], args := [d1, d2, d3] }
  | _ => none }
def matchSetsRow : OpenClaim := { program := "ytimhiacjoplkeaa", sum := "a2cd05123ad0e42d565095b6e6b82693d5024f43c9b9f0efb6da9b743ee3e44d", func := "homograph/homographlaw04.MatchSets", spec := "matchSets", unfollowed := true, recurses := true, apart := false }
def MatchSetsSaid : Prop := matchSetsRow.holds Try.pinned (OpenSpec.ofChange matchSetsSpec)

/-- ITS FALSE NEIGHBOUR: 'it returns false'. Refute it at one input. -/
def matchSetsWrong : ChangeSpec := { name := "matchSets", fn := fun _ => fun
  | [d1, d2, d3] => { results := [.lit (.bool false)], args := [d1, d2, d3] }
  | _ => none }
def MatchSetsWrongFalsely : Prop := matchSetsRow.holds Try.pinned (OpenSpec.ofChange matchSetsWrong)

/-- 'homographlaw04.MatchBack': WHATEVER THE INPUT: true; the input reads as it did. -/
def matchBackSpec : ChangeSpec := { name := "matchBack", fn := fun _ => fun
  | [d1, d2] => { results := [.lit (.bool true)], args := [d1, d2] }
  | _ => none }
def matchBackRow : OpenClaim := { program := "ytimhiacjoplkeaa", sum := "a2cd05123ad0e42d565095b6e6b82693d5024f43c9b9f0efb6da9b743ee3e44d", func := "homograph/homographlaw04.MatchBack", spec := "matchBack", unfollowed := true, recurses := true, apart := false }
def MatchBackSaid : Prop := matchBackRow.holds Try.pinned (OpenSpec.ofChange matchBackSpec)

/-- ITS FALSE NEIGHBOUR: 'it returns false'. Refute it at one input. -/
def matchBackWrong : ChangeSpec := { name := "matchBack", fn := fun _ => fun
  | [d1, d2] => { results := [.lit (.bool false)], args := [d1, d2] }
  | _ => none }
def MatchBackWrongFalsely : Prop := matchBackRow.holds Try.pinned (OpenSpec.ofChange matchBackWrong)

/-- 'homographlaw04.MatchReps': WHATEVER THE INPUT: true; the input reads as it did. -/
def matchRepsSpec : ChangeSpec := { name := "matchReps", fn := fun _ => fun
  | [d1, d2] => { results := [.lit (.bool true)], args := [d1, d2] }
  | _ => none }
def matchRepsRow : OpenClaim := { program := "ytimhiacjoplkeaa", sum := "a2cd05123ad0e42d565095b6e6b82693d5024f43c9b9f0efb6da9b743ee3e44d", func := "homograph/homographlaw04.MatchReps", spec := "matchReps", unfollowed := true, recurses := true, apart := false }
def MatchRepsSaid : Prop := matchRepsRow.holds Try.pinned (OpenSpec.ofChange matchRepsSpec)

/-- ITS FALSE NEIGHBOUR: 'it returns false'. Refute it at one input. -/
def matchRepsWrong : ChangeSpec := { name := "matchReps", fn := fun _ => fun
  | [d1, d2] => { results := [.lit (.bool false)], args := [d1, d2] }
  | _ => none }
def MatchRepsWrongFalsely : Prop := matchRepsRow.holds Try.pinned (OpenSpec.ofChange matchRepsWrong)

/- THE SECOND FORM. 'bulk': how many values and letters a reading holds, each counted each time it is reached (what is shared counts as often as it is met; a slice's spare places count too). A statement '..UptoSaid' is the law's where the arguments, and the package variables that the reading takes, are together of bulk at most 1048576: NARROWER than '..Said'. Prove '..Said' where nothing that the law and all that it calls make is longer than what came in: it says more and counts as full. Else prove '..UptoSaid'. A law counts once. -/
mutual
def uptoBulk {H : Type} : DataW H → Nat
  | .lit (.string bytes) => bytes.length + 1
  | .lit _ => 1
  | .nil => 1
  | .ptr d => uptoBulk d + 1
  | .slice elems spare => uptoBulkAll elems + uptoBulkAll spare + 1
  | .agg parts => uptoBulkAll parts + 1
  | .iface _ d => uptoBulk d + 1
  | .map entries => uptoBulkEntries entries + 1
  | .held _ => 1
def uptoBulkAll {H : Type} : List (DataW H) → Nat
  | [] => 0
  | d :: r => uptoBulk d + uptoBulkAll r
def uptoBulkEntries {H : Type} : List (Lit × DataW H) → Nat
  | [] => 0
  | x :: r => uptoBulkEntry x + uptoBulkEntries r
def uptoBulkEntry {H : Type} : Lit × DataW H → Nat
  | (.string bytes, d) => bytes.length + uptoBulk d + 1
  | (_, d) => uptoBulk d + 1
 end
def uptoSmall : (H : Type) → List (DataW H) → Bool := fun _ ds => decide (uptoBulkAll ds ≤ 1048576)
def OpenSpec.upto (s : _root_.Go.ChangeSpec) : _root_.Go.OpenSpec := { _root_.Go.OpenSpec.ofChange s with cond := some uptoSmall }

/-- 'homographlaw04.MatchFinds', WHERE WHAT IT READS IS OF BULK AT MOST 1048576: true; the input reads as it did. -/
def matchFindsUptoRow : OpenClaim := { program := "ytimhiacjoplkeaa", sum := "a2cd05123ad0e42d565095b6e6b82693d5024f43c9b9f0efb6da9b743ee3e44d", func := "homograph/homographlaw04.MatchFinds", spec := "matchFinds", unfollowed := true, recurses := true, apart := false, narrowed := true }
def MatchFindsUptoSaid : Prop := matchFindsUptoRow.holds Try.pinned (OpenSpec.upto matchFindsSpec)

/-- 'homographlaw04.MatchSets', WHERE WHAT IT READS IS OF BULK AT MOST 1048576: true; the input reads as it did. -/
def matchSetsUptoRow : OpenClaim := { program := "ytimhiacjoplkeaa", sum := "a2cd05123ad0e42d565095b6e6b82693d5024f43c9b9f0efb6da9b743ee3e44d", func := "homograph/homographlaw04.MatchSets", spec := "matchSets", unfollowed := true, recurses := true, apart := false, narrowed := true }
def MatchSetsUptoSaid : Prop := matchSetsUptoRow.holds Try.pinned (OpenSpec.upto matchSetsSpec)

/-- 'homographlaw04.MatchBack', WHERE WHAT IT READS IS OF BULK AT MOST 1048576: true; the input reads as it did. -/
def matchBackUptoRow : OpenClaim := { program := "ytimhiacjoplkeaa", sum := "a2cd05123ad0e42d565095b6e6b82693d5024f43c9b9f0efb6da9b743ee3e44d", func := "homograph/homographlaw04.MatchBack", spec := "matchBack", unfollowed := true, recurses := true, apart := false, narrowed := true }
def MatchBackUptoSaid : Prop := matchBackUptoRow.holds Try.pinned (OpenSpec.upto matchBackSpec)

/-- 'homographlaw04.MatchReps', WHERE WHAT IT READS IS OF BULK AT MOST 1048576: true; the input reads as it did. -/
def matchRepsUptoRow : OpenClaim := { program := "ytimhiacjoplkeaa", sum := "a2cd05123ad0e42d565095b6e6b82693d5024f43c9b9f0efb6da9b743ee3e44d", func := "homograph/homographlaw04.MatchReps", spec := "matchReps", unfollowed := true, recurses := true, apart := false, narrowed := true }
def MatchRepsUptoSaid : Prop := matchRepsUptoRow.holds Try.pinned (OpenSpec.upto matchRepsSpec)

end Rows
end Go.Proofs.Ytimhiacjoplkeaa
