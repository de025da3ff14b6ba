/- math/bits.Len64 of fewer than eight bits: its walk. Own text. -/
import Derived.Test.YtokdggmobhnnpaaP0
import Derived.Lib.BitFns
import Derived.Lib.Tables
import Derived.Lib.Hide
namespace Go.Proofs.Ytokdggmobhnnpaa.P
open Go.RowKit Go.Proofs.YtokdggmobhnnpaaW.PrintWords Go.Proofs.YtokdggmobhnnpaaW.PrintLast Go.Proofs.YtokdggmobhnnpaaW.PrintMore
set_option linter.unusedVariables false
/-- How many bits a number below 128 has. -/
def len7 (x : Int) : Int := if x < 1 then 0 else if x < 2 then 1 else if x < 4 then 2 else if x < 8 then 3 else if x < 16 then 4 else if x < 32 then 5 else if x < 64 then 6 else 7
theorem len7_len8 : ∀ y : Fin 128, Lib.len8 ((y.val : Nat) : Int) = len7 ((y.val : Nat) : Int) := by decide +kernel
def bits_Len64.f (a0 : Int) : Option Int := if 0 ≤ a0 ∧ a0 ≤ 127 then some (len7 a0) else none
theorem wrap64_small (x : Int) (h : 0 ≤ x) (h1 : x ≤ 255) : wrap64 x = x := by unfold wrap64; omega
theorem len7_bd (x : Int) : 0 ≤ len7 x ∧ len7 x ≤ 7 := by unfold len7; repeat' split
                                                          all_goals omega
set_option maxRecDepth 20000 in
theorem len64_c (x : Nat) (hx : x < 128) (w : World) : Calls Try.prog 26 #[.int .u64 (x : Int)] w fun e w' => e = .returned (.int .i64 (len7 x)) ∧ w' = w := by
  have h1 : decide ((4294967296 : Int) ≤ (x : Int)) = false := decide_eq_false (by omega)
  have h2 : decide ((65536 : Int) ≤ (x : Int)) = false := decide_eq_false (by omega)
  have h3 : decide ((256 : Int) ≤ (x : Int)) = false := decide_eq_false (by omega)
  have hsz : x < Lib.len8tab.size := by rw [Lib.len8tab_size]; omega
  have hl : Hid (((Lib.len8tab[x]'hsz).toNat : Int) = len7 (x : Int)) := by
    have h := len7_len8 ⟨x, hx⟩
    unfold Lib.len8 at h
    simp only [Int.toNat_natCast] at h
    rw [getElem?_pos Lib.len8tab x hsz] at h
    exact h
  go_enter Try.func26, Try.ntmps26
  go_wp2
  go_ret
  refine ⟨congrArg Ending.returned (congrArg (Value.int IntKind.i64) ?_), rfl⟩
  have h5 := len7_bd (x : Int)
  rw [hl.out, wrap64_small _ h5.1 (by omega), wrap64_small _ h5.1 (by omega)]
theorem bits_Len64.calls (a0 : Int) (r : Int) (w : World) (h : bits_Len64.f a0 = some r) : Calls Try.prog 26 #[.int .u64 a0] w fun e w' => e = .returned (.int .i64 r) ∧ Drawn0 w w' := by
  unfold bits_Len64.f at h
  split at h
  · rename_i hb
    injection h with h
    subst h
    obtain ⟨n, rfl⟩ := Int.eq_ofNat_of_zero_le hb.1
    exact (len64_c n (by omega) w).mono fun e w' ⟨h1, h2⟩ => ⟨h1, ⟨0, by subst h2; rfl⟩⟩
  · cases h
end Go.Proofs.Ytokdggmobhnnpaa.P
