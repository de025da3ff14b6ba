/- DfacodeSizes: numbers that came in; its contract. Own text. -/
import Derived.Test.YtokdggmobhnnpaaHSiz
import Derived.Test.YtokdggmobhnnpaaOpen
import Derived.Deep.Slices
namespace Go.Proofs.Ytokdggmobhnnpaa
open Go.RowKit Go.Proofs.Ytokdggmobhnnpaa.P Go.Proofs.Ytokdggmobhnnpaa.Enc Go.Proofs.YtokdggmobhnnpaaW.PrintWords
set_option linter.unusedVariables false

/-- Numbers that are read. -/
def IsV (w : World) (v : Value) (l : List Int) : Prop := ∃ A c, v = .slice A l.length c ∧ l.length ≤ c ∧ (Kd.int .u64).C w A l.length l
section
variable {H : Type} {enc : TypeId × Value → H} {w : World} {base : Nat} {spare : Nat → Bool} {held : Bool}
theorem open_u64s {v : Value} {d : DataW H} {ps : List MemPlace} (h : DataW.Trod enc Try.prog w base spare held 49 v d ps) (hv : ∃ a n c, v = .slice a n c) : ∃ l, IsV w v l ∧ ∀ n ∈ l, 0 ≤ n ∧ n < 18446744073709551616 := by
  obtain ⟨a, n, c, rfl⟩ := hv
  obtain ⟨fuel, hf⟩ := h
  rcases Go.Deep.open_slice1 Try.underlying49 cells24' hf with ⟨e, _⟩ | ⟨x, len, cap, m, q, V, D, Pl, e, hb, hl, hm, hmm, _, hel⟩
  · have e' : [Value.slice a n c] = [Value.slice none 0 0] := e
    injection e' with e' _
    rw [e']
    exact ⟨[], ⟨none, 0, rfl, Nat.le_refl _, rfl, by simp, fun h => absurd h (Nat.lt_irrefl 0)⟩, fun x hx => by simp at hx⟩
  · have e' : [Value.slice a n c] = [Value.slice (some x) len cap] := e
    injection e' with e' _
    rw [e']
    have hlm : len ≤ m := by rw [hmm]; split <;> omega
    obtain ⟨l, hll, hq⟩ := list_of (fun i (y : Int) => w.cell? (x.add i) = some (.int .u64 y) ∧ 0 ≤ y ∧ y < 18446744073709551616) len (fun i hi => by
      obtain ⟨h1, h2⟩ := hel i (by omega)
      obtain ⟨y, hy, _, hw⟩ := DataW.trod_int Try.underlying24 h2
      injection hy with hy _
      exact ⟨y, by rw [h1, hy], bounds_u64 hw⟩)
    refine ⟨l, ⟨some x, cap, by rw [hll], by omega, ?_⟩, fun y hy => ?_⟩
    · refine Kd.C_of_reads (d := (0 : Int)) ⟨rfl, by rw [hll]; simp only [maxLen] at hm; omega, fun _ => ⟨x, rfl, fun j hj => ?_⟩⟩
      rw [List.getD_eq_getElem?_getD, List.getElem?_eq_getElem hj]
      exact (hq j _ (List.getElem?_eq_getElem hj)).1
    · obtain ⟨i, hi, rfl⟩ := List.getElem_of_mem hy
      exact (hq i _ (List.getElem?_eq_getElem hi)).2
end
theorem dfacodeSizes_c {w : World} {v : Value} {l : List Int} (h : IsV w v l) (hl : ∀ n ∈ l, 0 ≤ n ∧ n < 18446744073709551616) :
    Calls Try.prog 7 #[v] w fun e w' => e = .returned (.bool true) ∧ Below w.heap.size w w' := by
  obtain ⟨A, c, rfl, _, h3⟩ := h
  exact sizes_c h3 hl
end Go.Proofs.Ytokdggmobhnnpaa
