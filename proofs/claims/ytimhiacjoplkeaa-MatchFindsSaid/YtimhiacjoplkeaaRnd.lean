/- A region that draws its order, within a round of a range over a function: walked by the plain laws. Own text. -/
import Derived.Test.YtimhiacjoplkeaaPlc
namespace Go.Proofs.Ytimhiacjoplkeaa
open Go Go.RowKit Go.Proofs.YtimhiacjoplkeaaW.PrintLast
set_option linter.unusedVariables false
variable {P : Program}
theorem rowsIn_wide {n : Nat} {row : String} {args : Array Value} {w : World} {R : Value → World → Prop} (h : Rows P row args w R) : RowsIn Fence.wide n P row args w R :=
  fun c cs _ => let ⟨v, w', r, s⟩ := h c cs; ⟨v, w', r, stepsIn_wide.2 s⟩
theorem wpIn_of_wp (l n : Nat) {o : Oper} {a : Act} {w : World} {K : Act → World → Prop} {Q : Exit → Act → World → Prop} (hd : ∀ c, o.op ≠ .defer c) (h : o.wp P a w K Q) : o.wpIn (Fence.wide.inRound l) n P a w K Q := by
  refine ⟨fun _ _ => trivial, ?_⟩
  rw [Oper.semAt_eq _ _ _ hd]
  unfold Oper.wp at h
  revert h
  generalize (execOp a.eval o).run P w = r
  cases r with
  | ok x w' =>
    cases x with
    | value v => exact fun h => h
    | skip => exact fun h => h
    | defer d => exact fun h => h
    | enter f args => exact fun h => ⟨fun e => (by cases e), CallsIn.inRound l (callsIn_wide.2 h)⟩
    | row row args => exact fun h => ⟨fun e => (by cases e), rowsIn_wide h⟩
    | _ => exact fun h => h.elim
  | halt x w' => cases x <;> exact fun h => h
theorem anyIn_of_any (l n : Nat) (md : Region.Mode) (ops : Array Oper) (Q : Exit → Act → World → Prop) (hd : ∀ o ∈ ops, ∀ c, o.op ≠ .defer c) (hQ : ¬ LetsOut Q) : ∀ (fuel : Nat) (li : Array Bool) (a : Act) (w : World),
    wpAny P md ops Q fuel li a w → wpAnyIn (Fence.wide.inRound l) n P md ops Q fuel li a w
  | 0, li, a, w, h => h
  | fuel + 1, li, a, w, h => by
    refine ⟨h.1, fun i hi => ?_⟩
    have h2 := h.2 i hi
    unfold wpOp at h2
    unfold wpOpIn
    cases ho : ops[i]? with
    | none => rw [ho] at h2; exact anyIn_of_any l n md ops Q hd hQ fuel _ a w h2
    | some o =>
      rw [ho] at h2
      simp only at h2 ⊢
      by_cases hw : Region.wanted o (yielded ops a.tmps) = true
      · rw [if_pos hw] at h2 ⊢
        rcases h2 with h2 | h2
        · exact Oper.wpIn_mono (fun a w h => anyIn_of_any l n md ops Q hd hQ fuel _ a w h) (wpIn_of_wp l n (hd o (Array.mem_of_getElem? ho)) h2)
        · exact absurd h2.2 hQ
      · rw [if_neg hw] at h2 ⊢
        exact ⟨fun _ _ => trivial, anyIn_of_any l n md ops Q hd hQ fuel _ _ w h2⟩
def noDefer (ops : Array Oper) : Bool := ops.toList.all (fun o => match o.op with | .defer _ => false | _ => true)
theorem noDefer_spec {ops : Array Oper} (h : noDefer ops = true) : ∀ o ∈ ops, ∀ c, o.op ≠ .defer c := fun o ho c e => by
  unfold noDefer at h
  rw [List.all_eq_true] at h
  have := h o (by simpa using ho)
  rw [e] at this
  cases this
/-- A drawn region of N operations, in a round: as start_. -/
theorem startIn_ {ops : Array Oper} {Q : Exit → Act → World → Prop} {S : World → Prop} {ds : List Nat} {id n m l : Nat} {a : Act} {w : World} (L : Array Bool) (hm : P.follows .mixedOrders = true) (hnd : noDefer ops = true) (hQ : ¬ LetsOut Q) (hn : ops.size = n) (hl : Array.replicate n false = L) (hS : S w.drew)
    (h : S w.drew → wpAnyLast P .any ops Q S ds n L a w.drew) : (Code.region id ops true).wpIn (Fence.wide.inRound l) m P Q a w := by
  subst hn
  subst hl
  exact wpIn_region_any hm (anyIn_of_any l m .any ops Q (noDefer_spec hnd) hQ _ _ _ _ (wpAny_of_last _ _ _ _ (h hS)))
end Go.Proofs.Ytimhiacjoplkeaa
