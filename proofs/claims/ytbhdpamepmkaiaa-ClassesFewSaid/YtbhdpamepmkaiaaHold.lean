/- A region that draws, walked one way; two arrays of bytes, compared. Own text. -/
import Derived.Test.YtbhdpamepmkaiaaAwk
import Derived.ChangeKeysEq
import Derived.Deep.RegionHeld3
import Derived.Deep.RegionWith
namespace Go.Proofs.Ytbhdpamepmkaiaa
open Go.RowKit Go.Proofs.Ytbhdpamepmkaiaa.P Go.Proofs.Ytbhdpamepmkaiaa.Plain Go.Proofs.YtbhdpamepmkaiaaW.PrintWords Go.Proofs.YtbhdpamepmkaiaaW.PrintLast Go.Proofs.YtbhdpamepmkaiaaW.PrintMore
set_option linter.unusedVariables false

theorem cells5 : Try.prog.cellsOf 5 = 1 := by kernel_rfl
theorem run_part1 (T : Nat) (cs : Array Value) (i : Nat) (v : Value) (he : (Try.prog.info? T).map (·.size) = some 1) (hag : ∀ w, (isAgg T).run Try.prog w = .ok false w) (hv : cs[i]? = some v) (w : World) : (part T cs i).run Try.prog w = .ok v w := by
  cases hq : Try.prog.info? T with
  | none => simp [hq] at he
  | some q =>
    have hs : q.size = 1 := by simpa [hq] using he
    simp [part, hag, hv]
theorem eqItems_same (d : Nat) (C : Array Value) (hC : ∀ i, i < 256 → ∃ x, C[i]? = some (.int .u8 x)) (w : World) : ∀ is : List Nat, (∀ i ∈ is, i < 256) → (Op.eqItems (d + 1) 5 (Try.prog.cellsOf 5) C C is).run Try.prog w = .ok true w := by
  intro is
  induction is with
  | nil => intro _; simp [Op.eqItems]
  | cons i is ih =>
    intro h
    obtain ⟨x, hx⟩ := hC i (h i (by simp))
    have hp := run_part1 5 C (i * Try.prog.cellsOf 5) _ size5 aggU8 (by rw [cells5, Nat.mul_one]; exact hx) w
    have he : (Op.equalIn (d + 1) 5 (.int .u8 x) (.int .u8 x)).run Try.prog w = .ok true w := by
      simp [Op.equalIn, run_underlying Try.underlying5]
    simp only [Op.eqItems, Sem.run_bind, hp, he, Result.andThen_ok]
    simpa using ih (fun j hj => h j (by simp [hj]))
theorem eq24_same (l : List Int) (hl : l.length = 256) (w : World) : (Op.equalIn 10000 24 (.agg (arI .u8 l)) (.agg (arI .u8 l))).run Try.prog w = .ok true w := by
  obtain ⟨i5, hi5⟩ : ∃ i5, Try.prog.info? 5 = some i5 := by
    have := size5
    cases h : Try.prog.info? 5 with
    | none => rw [h] at this; cases this
    | some i => exact ⟨i, rfl⟩
  show (Op.equalIn (9999 + 1) 24 _ _).run Try.prog w = _
  rw [run_equalIn_array w 9999 _ _ Try.underlying24 hi5]
  exact eqItems_same 9998 _ (fun i hi => ⟨_, arI_get .u8 l i (by omega)⟩) w _ (fun i hi => by simpa using hi)
theorem guard24 : Try.prog.eqGuardType Try.prog.depth 24 = false := by kernel_rfl
end Go.Proofs.Ytbhdpamepmkaiaa

namespace Go
open Go.Shelf
section
variable {P : Program} {ops : Array Oper} {Q : Exit → Act → World → Prop} {md : Region.Mode} {S S' : World → Prop}
theorem wpAnyH_stronger (hS : ∀ w, S' w → S w) : ∀ (fuel : Nat) (listed : Array Bool) (a : Act) (w : World), wpAnyH P md ops Q S' fuel listed a w → wpAnyH P md ops Q S fuel listed a w
  | 0, _, _, _, h => h
  | fuel + 1, _, _, _, h => ⟨h.1, fun i hi => wpOp_mono (fun a' w' h' => ⟨hS _ h'.1, wpAnyH_stronger hS fuel _ a' w' h'.2⟩) (h.2 i hi)⟩
/-- Behind a call: what is held is what the call has left. -/
theorem hold_call {i : Nat} {fuel : Nat} {listed : Array Bool} {a : Act} {w : World} {o : Oper} (hr : Region.ready md ops listed = [i]) (ho : ops[i]? = some o) (hw : Region.wanted o (yielded ops a.tmps) = true)
    (S' : World → World → Prop) (h : ∀ K : Act → World → Prop, (∀ a' w', S w' → (∀ w2, S' w' w2 → S w2) → wpAnyH P md ops Q (S' w') fuel (listed.setIfInBounds i true) a' w' → K a' w') → Oper.wp P o a w K Q) :
    wpAnyH P md ops Q S (fuel + 1) listed a w := by
  refine wpAnyH_ready hr (by simp) ?_
  refine AllReadyH.cons ho (fun K hK => ?_) AllReadyH.nil
  rw [if_pos hw]
  exact h K (fun a' w' h1 h2 h3 => hK.out a' w' h1 (fun _ => wpAnyH_stronger h2 _ _ _ _ h3))
theorem drop_get {L : List Oper} {i : Nat} {o : Oper} {rest : List Oper} (hd : L.drop i = o :: rest) : L.toArray[i]? = some o := by
  have h : (L.drop i)[0]? = some o := by rw [hd]; rfl
  rw [List.getElem?_drop, Nat.add_zero] at h
  simpa using h
/-- Take an operation that yields in every world that is held. -/
theorem hold_take {L : List Oper} {i : Nat} {oi : Oper} {rest : List Oper} {v : Value} {fuel : Nat} {listed : Array Bool} {a : Act} {w : World} (hd : L.drop i = oi :: rest)
    (hs : Region.noSelect L.toArray = true) (hf : Region.free md L.toArray listed i = true) (hr : (Region.ready md L.toArray listed).contains i = true)
    (hQ : ∀ c a w, Q (.panic c) (a.put oi.dst v) w → Q (.panic c) a w) (hy : YieldsIf P L.toArray S oi v a) (hS : S w)
    (h : wpAnyH P md L.toArray Q S fuel (listed.setIfInBounds i true) (a.put oi.dst v) w) : wpAnyH P md L.toArray Q S (fuel + 1) listed a w := wpAnyH_take (drop_get hd) hs hf hr hQ hy hS h
theorem hold_call_ {L : List Oper} {i : Nat} {rest : List Oper} {fuel : Nat} {listed : Array Bool} {a : Act} {w : World} {o : Oper} (hr : Region.ready md L.toArray listed = [i]) (hd : L.drop i = o :: rest) (hw : Region.wanted o (yielded L.toArray a.tmps) = true)
    (S' : World → World → Prop) (h : ∀ K : Act → World → Prop, (∀ a' w', S w' → (∀ w2, S' w' w2 → S w2) → wpAnyH P md L.toArray Q (S' w') fuel (listed.setIfInBounds i true) a' w' → K a' w') → Oper.wp P o a w K Q) :
    wpAnyH P md L.toArray Q S (fuel + 1) listed a w := hold_call hr (drop_get hd) hw S' h
end
end Go
