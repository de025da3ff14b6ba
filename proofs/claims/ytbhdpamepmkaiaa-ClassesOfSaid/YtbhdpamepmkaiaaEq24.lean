/- Two arrays of bytes, compared. Own text. -/
import Derived.Test.YtbhdpamepmkaiaaAwk
import Derived.ChangeKeysEq
import Derived.Deep.RegionHeld3
import Derived.Deep.RegionWith
namespace Go.Proofs.Ytbhdpamepmkaiaa
open Go.RowKit Go.Proofs.Ytbhdpamepmkaiaa.P Go.Proofs.Ytbhdpamepmkaiaa.Plain Go.Proofs.YtbhdpamepmkaiaaW.PrintWords Go.Proofs.YtbhdpamepmkaiaaW.PrintLast Go.Proofs.YtbhdpamepmkaiaaW.PrintMore
set_option linter.unusedVariables false

theorem cells5 : Try.prog.cellsOf 5 = 1 := by kernel_rfl
theorem run_part1 (T : Nat) (cs : Array Value) (i : Nat) (v : Value) (he : (Try.prog.info? T).map (·.size) = some 1) (hag : ∀ w, (isAgg T).run Try.prog w = .ok false w) (hv : cs[i]? = some v) (w : World) : (part T cs i).run Try.prog w = .ok v w := by
  cases hq : Try.prog.info? T with
  | none => simp [hq] at he
  | some q =>
    have hs : q.size = 1 := by simpa [hq] using he
    simp [part, hag, hv]
theorem eqItems_same (d : Nat) (C : Array Value) (hC : ∀ i, i < 256 → ∃ x, C[i]? = some (.int .u8 x)) (w : World) : ∀ is : List Nat, (∀ i ∈ is, i < 256) → (Op.eqItems (d + 1) 5 (Try.prog.cellsOf 5) C C is).run Try.prog w = .ok true w := by
  intro is
  induction is with
  | nil => intro _; simp [Op.eqItems]
  | cons i is ih =>
    intro h
    obtain ⟨x, hx⟩ := hC i (h i (by simp))
    have hp := run_part1 5 C (i * Try.prog.cellsOf 5) _ size5 aggU8 (by rw [cells5, Nat.mul_one]; exact hx) w
    have he : (Op.equalIn (d + 1) 5 (.int .u8 x) (.int .u8 x)).run Try.prog w = .ok true w := by
      simp [Op.equalIn, run_underlying Try.underlying5]
    simp only [Op.eqItems, Sem.run_bind, hp, he, Result.andThen_ok]
    simpa using ih (fun j hj => h j (by simp [hj]))
theorem eq24_same (l : List Int) (hl : l.length = 256) (w : World) : (Op.equalIn 10000 24 (.agg (arI .u8 l)) (.agg (arI .u8 l))).run Try.prog w = .ok true w := by
  obtain ⟨i5, hi5⟩ : ∃ i5, Try.prog.info? 5 = some i5 := by
    have := size5
    cases h : Try.prog.info? 5 with
    | none => rw [h] at this; cases this
    | some i => exact ⟨i, rfl⟩
  show (Op.equalIn (9999 + 1) 24 _ _).run Try.prog w = _
  rw [run_equalIn_array w 9999 _ _ Try.underlying24 hi5]
  exact eqItems_same 9998 _ (fun i hi => ⟨_, arI_get .u8 l i (by omega)⟩) w _ (fun i hi => by simpa using hi)
theorem guard24 : Try.prog.eqGuardType Try.prog.depth 24 = false := by kernel_rfl
end Go.Proofs.Ytbhdpamepmkaiaa
