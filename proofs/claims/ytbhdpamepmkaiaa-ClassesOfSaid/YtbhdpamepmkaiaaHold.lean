/- A region that draws, walked one way: takes, and calls behind which what is held is made stronger. Own text. -/
import Derived.Test.YtbhdpamepmkaiaaEq24
namespace Go
open Go.Shelf
section
variable {P : Program} {ops : Array Oper} {Q : Exit → Act → World → Prop} {md : Region.Mode} {S S' : World → Prop}
theorem wpAnyH_stronger (hS : ∀ w, S' w → S w) : ∀ (fuel : Nat) (listed : Array Bool) (a : Act) (w : World), wpAnyH P md ops Q S' fuel listed a w → wpAnyH P md ops Q S fuel listed a w
  | 0, _, _, _, h => h
  | fuel + 1, _, _, _, h => ⟨h.1, fun i hi => wpOp_mono (fun a' w' h' => ⟨hS _ h'.1, wpAnyH_stronger hS fuel _ a' w' h'.2⟩) (h.2 i hi)⟩
/-- Behind a call: what is held is what the call has left. -/
theorem hold_call {i : Nat} {fuel : Nat} {listed : Array Bool} {a : Act} {w : World} {o : Oper} (hr : Region.ready md ops listed = [i]) (ho : ops[i]? = some o) (hw : Region.wanted o (yielded ops a.tmps) = true)
    (S' : World → World → Prop) (h : ∀ K : Act → World → Prop, (∀ a' w', S w' → (∀ w2, S' w' w2 → S w2) → wpAnyH P md ops Q (S' w') fuel (listed.setIfInBounds i true) a' w' → K a' w') → Oper.wp P o a w K Q) :
    wpAnyH P md ops Q S (fuel + 1) listed a w := by
  refine wpAnyH_ready hr (by simp) ?_
  refine AllReadyH.cons ho (fun K hK => ?_) AllReadyH.nil
  rw [if_pos hw]
  exact h K (fun a' w' h1 h2 h3 => hK.out a' w' h1 (fun _ => wpAnyH_stronger h2 _ _ _ _ h3))
theorem drop_get {L : List Oper} {i : Nat} {o : Oper} {rest : List Oper} (hd : L.drop i = o :: rest) : L.toArray[i]? = some o := by
  have h : (L.drop i)[0]? = some o := by rw [hd]; rfl
  rw [List.getElem?_drop, Nat.add_zero] at h
  simpa using h
/-- Take an operation that yields in every world that is held. -/
theorem hold_take {L : List Oper} {i : Nat} {oi : Oper} {rest : List Oper} {v : Value} {fuel : Nat} {listed : Array Bool} {a : Act} {w : World} (hd : L.drop i = oi :: rest)
    (hs : Region.noSelect L.toArray = true) (hf : Region.free md L.toArray listed i = true) (hr : (Region.ready md L.toArray listed).contains i = true)
    (hQ : ∀ c a w, Q (.panic c) (a.put oi.dst v) w → Q (.panic c) a w) (hy : YieldsIf P L.toArray S oi v a) (hS : S w)
    (h : wpAnyH P md L.toArray Q S fuel (listed.setIfInBounds i true) (a.put oi.dst v) w) : wpAnyH P md L.toArray Q S (fuel + 1) listed a w := wpAnyH_take (drop_get hd) hs hf hr hQ hy hS h
theorem hold_call_ {L : List Oper} {i : Nat} {rest : List Oper} {fuel : Nat} {listed : Array Bool} {a : Act} {w : World} {o : Oper} (hr : Region.ready md L.toArray listed = [i]) (hd : L.drop i = o :: rest) (hw : Region.wanted o (yielded L.toArray a.tmps) = true)
    (S' : World → World → Prop) (h : ∀ K : Act → World → Prop, (∀ a' w', S w' → (∀ w2, S' w' w2 → S w2) → wpAnyH P md L.toArray Q (S' w') fuel (listed.setIfInBounds i true) a' w' → K a' w') → Oper.wp P o a w K Q) :
    wpAnyH P md L.toArray Q S (fuel + 1) listed a w := hold_call hr (drop_get hd) hw S' h
end
end Go
