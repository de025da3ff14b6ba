/- From a datum that is read to what the walks read. Own text. -/
import Derived.Test.YtokdggmobhnnpaaArr
import Derived.Test.YtokdggmobhnnpaaP0
import Derived.Below
import Derived.Deep.Slices
import Derived.OpenShut
import Derived.ChangeArms
namespace Go.Proofs.Ytokdggmobhnnpaa
open Go.RowKit Go.Proofs.Ytokdggmobhnnpaa.P Go.Proofs.YtokdggmobhnnpaaW.PrintWords
set_option linter.unusedVariables false

section
variable {H : Type} {enc : TypeId × Value → H} {P : Program} {w : World} {base : Nat} {spare : Nat → Bool} {held : Bool}
/-- Whatever of type t is read is of kind d, and p holds of it. -/
def OpensP (enc : TypeId × Value → H) (P : Program) (w : World) (base : Nat) (spare : Nat → Bool) (held : Bool) {α : Type} (d : Kd α) (p : α → Prop) (t : TypeId) : Prop :=
  ∀ (fuel : Nat) (cs : List Value) (x : DataW H × List MemPlace), DataW.trod enc P w base spare held fuel t cs = some x → ∃ y, d.K w y cs ∧ p y
/-- Whatever of type t is read is of kind d. -/
def Opens (enc : TypeId × Value → H) (P : Program) (w : World) (base : Nat) (spare : Nat → Bool) (held : Bool) {α : Type} (d : Kd α) (t : TypeId) : Prop :=
  ∀ (fuel : Nat) (cs : List Value) (x : DataW H × List MemPlace), DataW.trod enc P w base spare held fuel t cs = some x → ∃ y, d.K w y cs
theorem opensP_int {t : TypeId} {k : IntKind} (ht : P.underlying t = some (.int k)) : OpensP enc P w base spare held (Kd.int k) (fun n => (Lit.int k n).wf = true) t := fun fuel cs x h => by
  obtain ⟨n, rfl, _, hw⟩ := DataW.trod_int ht h
  exact ⟨n, rfl, hw⟩
theorem opens_int {t : TypeId} {k : IntKind} (ht : P.underlying t = some (.int k)) : Opens enc P w base spare held (Kd.int k) t := fun fuel cs x h => by
  obtain ⟨n, rfl, _, _⟩ := DataW.trod_int ht h
  exact ⟨n, rfl⟩
theorem addr_add (a : Addr) (x i : Nat) : (a.add x).add i = a.add (x + i) := by
  by_cases hx : x = 0
  · subst hx; simp [Addr.add]
  · by_cases hi : i = 0
    · subst hi; simp [Addr.add]
    · simp [Addr.add, hx, hi, Nat.add_assoc]
theorem list_of {α : Type} (Q : Nat → α → Prop) : ∀ n, (∀ i, i < n → ∃ y, Q i y) → ∃ xs : List α, xs.length = n ∧ ∀ i p, xs[i]? = some p → Q i p := by
  intro n
  induction n with
  | zero => intro _; exact ⟨[], rfl, fun i p h => by simp at h⟩
  | succ n ih =>
    intro h
    obtain ⟨xs, hl, hq⟩ := ih (fun i hi => h i (by omega))
    obtain ⟨y, hy⟩ := h n (by omega)
    refine ⟨xs ++ [y], by simp [hl], fun i p hp => ?_⟩
    rcases Nat.lt_or_ge i n with hi | hi
    · rw [List.getElem?_append_left (by omega)] at hp; exact hq i p hp
    · have : i = n := by
        have := (List.getElem?_eq_some_iff.1 hp).1
        simp [hl] at this; omega
      subst this
      rw [List.getElem?_append_right (by omega), hl, Nat.sub_self] at hp
      simp at hp; subst hp; exact hy
theorem opensP_slice {α : Type} {d : Kd α} {p : α → Prop} {t e : TypeId} (ht : P.underlying t = some (.slice e)) (hs : P.cellsOf e = d.sz) (h : OpensP enc P w base spare held d p e) : OpensP enc P w base spare held (Kd.slice e d) (fun l => ∀ y ∈ l, p y) t := fun fuel cs x hx => by
  rcases Go.Deep.open_slice ht hx with ⟨rfl, _⟩ | ⟨a, len, cap, m, n, D, Pl, rfl, hb, hl, hm, hmm, _, hel⟩
  · exact ⟨[], ⟨none, 0, rfl, Nat.le_refl _, rfl, by simp, fun h => absurd h (Nat.lt_irrefl 0)⟩, fun y hy => by simp at hy⟩
  · have hlm : len ≤ m := by rw [hmm]; split <;> omega
    obtain ⟨xs, hxl, hq⟩ := list_of (fun i y => ∃ cs', w.cells? base (a.add (i * P.cellsOf e)) (P.cellsOf e) = some cs' ∧ d.K w y cs' ∧ p y) len (fun i hi => by
      obtain ⟨cs', h1, h2⟩ := hel i (by omega)
      obtain ⟨y, hy, hp⟩ := h n cs' _ h2
      exact ⟨y, cs', h1, hy, hp⟩)
    refine ⟨xs, ⟨some a, cap, by rw [hxl], by omega, rfl, ?_, fun _ => ⟨a, rfl, fun j p hj => ?_⟩⟩, fun y hy => ?_⟩
    · rw [hxl]; simp only [maxLen] at hm; omega
    · obtain ⟨cs', h1, h2, _⟩ := hq j p hj
      have hcl := d.K_len h2
      refine ⟨cs', hcl, h2, fun i u hu => ?_⟩
      obtain ⟨_, hcl2, hcc⟩ := World.cells?_some h1
      have hi : i < P.cellsOf e := by rw [hs, ← hcl]; exact (List.getElem?_eq_some_iff.1 hu).1
      have h3 := hcc i hi
      rw [hu, hs] at h3
      rw [← h3]
      rw [addr_add]
    · obtain ⟨j, hj, rfl⟩ := List.getElem_of_mem hy
      exact (hq j _ (List.getElem?_eq_getElem hj)).choose_spec.2.2

theorem opens_slice {α : Type} {d : Kd α} {t e : TypeId} (ht : P.underlying t = some (.slice e)) (hs : P.cellsOf e = d.sz) (h : Opens enc P w base spare held d e) : Opens enc P w base spare held (Kd.slice e d) t := fun fuel cs x hx => by
  obtain ⟨y, hy, _⟩ := opensP_slice (p := fun _ => True) ht hs (fun fuel cs x hx => by obtain ⟨y, hy⟩ := h fuel cs x hx; exact ⟨y, hy, trivial⟩) fuel cs x hx
  exact ⟨y, hy⟩
end
section
variable {H : Type} {enc : TypeId × Value → H} {w : World} {base : Nat} {spare : Nat → Bool} {held : Bool}
theorem cells59 : Try.prog.cellsOf 59 = 3 := by kernel_rfl
theorem cells57 : Try.prog.cellsOf 57 = 2 := by kernel_rfl
theorem cells5' : Try.prog.cellsOf 5 = 1 := by kernel_rfl
theorem cells3' : Try.prog.cellsOf 3 = 1 := by kernel_rfl
theorem cells24' : Try.prog.cellsOf 24 = 1 := by kernel_rfl
theorem cells55' : Try.prog.cellsOf 55 = 1 := by kernel_rfl
/-- A machine that is read: the slice's value, and what it holds. -/
def IsM (w : World) (v : Value) (m : List S57) : Prop := ∃ A c, v = .slice A m.length c ∧ m.length ≤ c ∧ Kd.C k57 w A m.length m
/-- An arc's bytes are bytes. -/
def ArcB (a : S59) : Prop := (0 ≤ a.f0 ∧ a.f0 ≤ 255) ∧ (0 ≤ a.f1 ∧ a.f1 ≤ 255)
def StB (s : S57) : Prop := (0 ≤ s.f0 ∧ s.f0 < 18446744073709551616) ∧ s.f1.length ≤ 9223372036854775807 ∧ ∀ a ∈ s.f1, ArcB a
theorem bounds_u64 {n : Int} (h : (Lit.int .u64 n).wf = true) : 0 ≤ n ∧ n < 18446744073709551616 := by
  simp [Lit.wf, IntKind.min, IntKind.max, IntKind.bits, IntKind.signed] at h; omega
theorem opens59 : OpensP enc Try.prog w base spare held k59 ArcB 59 := fun fuel cs x h => by
  obtain ⟨xs, n, _, _, hl, hxl, hf⟩ := DataW.trod_struct Try.underlying59 h
  rw [cells59] at hl
  obtain ⟨a, b, c, rfl⟩ : ∃ a b c, cs = [a, b, c] := by
    match cs, hl with
    | [a, b, c], _ => exact ⟨a, b, c, rfl⟩
  have h0 : DataW.trod enc Try.prog w base spare held n 5 (([a, b, c].drop 0).take (Try.prog.cellsOf 5)) = xs[0]? := hf 0 _ rfl
  have h1 : DataW.trod enc Try.prog w base spare held n 5 (([a, b, c].drop 1).take (Try.prog.cellsOf 5)) = xs[1]? := hf 1 _ rfl
  have h2 : DataW.trod enc Try.prog w base spare held n 3 (([a, b, c].drop 2).take (Try.prog.cellsOf 3)) = xs[2]? := hf 2 _ rfl
  rw [cells5'] at h0 h1
  rw [cells3'] at h2
  have hsz : xs.length = 3 := hxl
  rw [List.getElem?_eq_getElem (by omega)] at h0 h1 h2
  obtain ⟨x0, e0, w0⟩ := opensP_int Try.underlying5 _ _ _ h0
  obtain ⟨x1, e1, w1⟩ := opensP_int Try.underlying5 _ _ _ h1
  obtain ⟨x2, e2, w2⟩ := opensP_int Try.underlying3 _ _ _ h2
  have e0' : [a] = [Value.int .u8 x0] := e0
  have e1' : [b] = [Value.int .u8 x1] := e1
  have e2' : [c] = [Value.int .i64 x2] := e2
  injection e0' with e0' _
  injection e1' with e1' _
  injection e2' with e2' _
  subst e0' e1' e2'
  exact ⟨⟨x0, x1, x2⟩, k59_mk w ⟨x0, x1, x2⟩, bounds_u8 w0, bounds_u8 w1⟩
theorem opens57 : OpensP enc Try.prog w base spare held k57 StB 57 := fun fuel cs x h => by
  obtain ⟨xs, n, _, _, hl, hxl, hf⟩ := DataW.trod_struct Try.underlying57 h
  rw [cells57] at hl
  obtain ⟨a, b, rfl⟩ : ∃ a b, cs = [a, b] := by
    match cs, hl with
    | [a, b], _ => exact ⟨a, b, rfl⟩
  have h0 : DataW.trod enc Try.prog w base spare held n 24 (([a, b].drop 0).take (Try.prog.cellsOf 24)) = xs[0]? := hf 0 _ rfl
  have h1 : DataW.trod enc Try.prog w base spare held n 55 (([a, b].drop 1).take (Try.prog.cellsOf 55)) = xs[1]? := hf 1 _ rfl
  rw [cells24'] at h0
  rw [cells55'] at h1
  have hsz : xs.length = 2 := hxl
  rw [List.getElem?_eq_getElem (by omega)] at h0 h1
  obtain ⟨x0, e0, w0⟩ := opensP_int Try.underlying24 _ _ _ h0
  obtain ⟨x1, e1, w1⟩ := opensP_slice Try.underlying55 cells59 opens59 _ _ _ h1
  have e0' : [a] = [Value.int .u64 x0] := e0
  injection e0' with e0' _
  subst e0'
  obtain ⟨A, c, e2, e3, e4⟩ := e1
  injection e2 with e2 _
  subst e2
  exact ⟨⟨x0, x1⟩, k57_mk w ⟨x0, x1⟩ e3 e4, bounds_u64 w0, e4.2.1, w1⟩
theorem open_machineB {v : Value} {d : DataW H} {ps : List MemPlace} (h : DataW.Trod enc Try.prog w base spare held 23 v d ps) (hv : ∃ a n c, v = .slice a n c) : ∃ m, IsM w v m ∧ ∀ s ∈ m, StB s := by
  obtain ⟨a, n, c, rfl⟩ := hv
  obtain ⟨fuel, hf⟩ := h
  obtain ⟨m, ⟨A, c', e, h1, h2⟩, hp⟩ := opensP_slice Try.underlying23 cells57 opens57 _ _ _ hf
  have e' : [Value.slice a n c] = [Value.slice A m.length c'] := e
  injection e' with e' _
  exact ⟨m, ⟨A, c', e', h1, h2⟩, hp⟩
theorem open_machine {v : Value} {d : DataW H} {ps : List MemPlace} (h : DataW.Trod enc Try.prog w base spare held 23 v d ps) (hv : ∃ a n c, v = .slice a n c) : ∃ m, IsM w v m :=
  (open_machineB h hv).imp fun _ h => h.1
end
end Go.Proofs.Ytokdggmobhnnpaa
