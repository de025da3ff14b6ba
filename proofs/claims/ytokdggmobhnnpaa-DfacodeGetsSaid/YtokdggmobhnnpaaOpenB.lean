/- Bytes that came in; what is told of a machine that came in. Own text. -/
import Derived.Test.YtokdggmobhnnpaaOpen
import Derived.Test.YtokdggmobhnnpaaAwk
import Derived.Deep.Slices
namespace Go.Proofs.Ytokdggmobhnnpaa
open Go.RowKit Go.Proofs.Ytokdggmobhnnpaa.P Go.Proofs.Ytokdggmobhnnpaa.Enc Go.Proofs.YtokdggmobhnnpaaW.PrintWords
set_option linter.unusedVariables false

/-- Bytes that are read. -/
def IsB (w : World) (v : Value) (l : List Int) : Prop := ∃ A c, v = .slice A l.length c ∧ l.length ≤ c ∧ (Kd.int .u8).C w A l.length l
section
variable {H : Type} {enc : TypeId × Value → H} {w : World} {base : Nat} {spare : Nat → Bool} {held : Bool}
theorem open_u8s {v : Value} {d : DataW H} {ps : List MemPlace} (h : DataW.Trod enc Try.prog w base spare held 25 v d ps) (hv : ∃ a n c, v = .slice a n c) : ∃ l, IsB w v l ∧ Bts l := by
  obtain ⟨a, n, c, rfl⟩ := hv
  obtain ⟨fuel, hf⟩ := h
  rcases Go.Deep.open_slice1 Try.underlying25 cells5' hf with ⟨e, _⟩ | ⟨x, len, cap, m, q, V, D, Pl, e, hb, hl, hm, hmm, _, hel⟩
  · have e' : [Value.slice a n c] = [Value.slice none 0 0] := e
    injection e' with e' _
    rw [e']
    exact ⟨[], ⟨none, 0, rfl, Nat.le_refl _, rfl, by simp, fun h => absurd h (Nat.lt_irrefl 0)⟩, fun x hx => by simp at hx⟩
  · have e' : [Value.slice a n c] = [Value.slice (some x) len cap] := e
    injection e' with e' _
    rw [e']
    have hlm : len ≤ m := by rw [hmm]; split <;> omega
    obtain ⟨l, hll, hq⟩ := list_of (fun i (y : Int) => w.cell? (x.add i) = some (.int .u8 y) ∧ 0 ≤ y ∧ y ≤ 255) len (fun i hi => by
      obtain ⟨h1, h2⟩ := hel i (by omega)
      obtain ⟨y, hy, _, hw⟩ := DataW.trod_int Try.underlying5 h2
      injection hy with hy _
      exact ⟨y, by rw [h1, hy], bounds_u8 hw⟩)
    refine ⟨l, ⟨some x, cap, by rw [hll], by omega, ?_⟩, fun y hy => ?_⟩
    · refine Kd.C_of_reads (d := (0 : Int)) ⟨rfl, by rw [hll]; simp only [maxLen] at hm; omega, fun _ => ⟨x, rfl, fun j hj => ?_⟩⟩
      rw [List.getD_eq_getElem?_getD, List.getElem?_eq_getElem hj]
      exact (hq j _ (List.getElem?_eq_getElem hj)).1
    · obtain ⟨i, hi, rfl⟩ := List.getElem_of_mem hy
      exact (hq i _ (List.getElem?_eq_getElem hi)).2
end
theorem byM_of (m : List S57) (hS : ∀ s ∈ m, StB s) : ByM m := fun s hs => ⟨(hS s hs).2.1, (hS s hs).2.2⟩
theorem okM_of (m : List S57) (hS : ∀ s ∈ m, StB s) (hg : goodB m = true) : OkM m := by
  have hl := good_len m hg
  refine ⟨by omega, fun s hs => ⟨(hS s hs).1, by have := (hS s hs).2.1; omega, fun a ha => ?_⟩⟩
  simp only [goodB, Bool.and_eq_true, decide_eq_true_eq, List.all_eq_true] at hg
  have h1 := arcsOk_arc m.length s.f1 none (hg.2 s hs) a ha
  have h2 := (hS s hs).2.2 a ha
  exact ⟨h2.1, h2.2, h1.1, by omega⟩
theorem preP_of (m : List S57) (hS : ∀ s ∈ m, StB s) : PreP m := ⟨byM_of m hS, okM_of m hS⟩
theorem leo_up {α : Type} (f : Nat → Option α) (h : ∀ k, LeO (f k) (f (k + 1))) {r : α} : ∀ (d k : Nat), f k = some r → f (k + d) = some r := by
  intro d
  induction d with
  | zero => intro k e; exact e
  | succ d ih => intro k e; exact h (k + d) r (ih k e)
theorem same_any (m : List S57) (hS : ∀ s ∈ m, StB s) (hm : m.length ≤ 9223372036854775807) : ∃ K, ∀ k, K ≤ k → homographref07_Same.f k m m = some true := by
  obtain ⟨K, hK⟩ := same_f m 9223372036854775807 ⟨Nat.le_refl _, fun s hs => (hS s hs).2.1⟩ hm
  refine ⟨K, fun k hk => ?_⟩
  obtain ⟨d, rfl⟩ : ∃ d, k = K + d := ⟨k - K, by omega⟩
  exact leo_up (fun k => homographref07_Same.f k m m) (fun k => homographref07_Same.mono m m k) d K hK
end Go.Proofs.Ytokdggmobhnnpaa
