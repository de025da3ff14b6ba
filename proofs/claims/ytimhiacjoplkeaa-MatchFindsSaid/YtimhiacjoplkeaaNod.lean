/- Patterns: as they are read from memory, and as they are made. Own text. -/
import Derived.Test.YtimhiacjoplkeaaP0
namespace Go.Proofs.Ytimhiacjoplkeaa
open Go.RowKit Go.Proofs.YtimhiacjoplkeaaW.PrintWords
set_option linter.unusedVariables false
/-- A pattern. -/
inductive Nd where
  | mk (op s0 s1 s2 s3 mn mx : Int) (kids : List Nd)
namespace Nd
def op : Nd → Int | .mk op _ _ _ _ _ _ _ => op
def s0 : Nd → Int | .mk _ s0 _ _ _ _ _ _ => s0
def s1 : Nd → Int | .mk _ _ s1 _ _ _ _ _ => s1
def s2 : Nd → Int | .mk _ _ _ s2 _ _ _ _ => s2
def s3 : Nd → Int | .mk _ _ _ _ s3 _ _ _ => s3
def mn : Nd → Int | .mk _ _ _ _ _ mn _ _ => mn
def mx : Nd → Int | .mk _ _ _ _ _ _ mx _ => mx
def kids : Nd → List Nd | .mk _ _ _ _ _ _ _ kids => kids
end Nd
def zNd : Nd := .mk 0 0 0 0 0 0 0 []
/-- A node's eight cells. -/
def ndCells (n : Nd) (v : Value) : List Value := [.int .i64 n.op, .int .u64 n.s0, .int .u64 n.s1, .int .u64 n.s2, .int .u64 n.s3, .int .i64 n.mn, .int .i64 n.mx, v]
/-- A node as a value. -/
abbrev ndVal (n : Nd) (v : Value) : Value := .agg #[.int .i64 n.op, .int .u64 n.s0, .int .u64 n.s1, .int .u64 n.s2, .int .u64 n.s3, .int .i64 n.mn, .int .i64 n.mx, v]

mutual
/-- A node's cells are read. -/
def NK (w : World) : Nd → List Value → Prop
  | .mk op s0 s1 s2 s3 mn mx kids, cs => ∃ A c, cs = ndCells (.mk op s0 s1 s2 s3 mn mx kids) (.slice A kids.length c) ∧ kids.length ≤ c ∧ kids.length ≤ 1000000 ∧ NKs w A 0 kids
def NKs (w : World) (A : Option Addr) (i : Nat) : List Nd → Prop
  | [] => True
  | k :: ks => (∃ ad cs, A = some ad ∧ NK w k cs ∧ ∀ j u, cs[j]? = some u → w.cell? (ad.add (i * 8 + j)) = some u) ∧ NKs w A (i + 1) ks
end
mutual
/-- A node's cells are made: its rows' blocks are ok. -/
def NM (w : World) (base : Nat) (ok : Nat → Prop) : Nd → List Value → Prop
  | .mk op s0 s1 s2 s3 mn mx kids, cs => ∃ v, cs = ndCells (.mk op s0 s1 s2 s3 mn mx kids) v ∧ kids.length ≤ 1000000 ∧
      ((kids = [] ∧ v = .slice none 0 0) ∨ (∃ g c cells, v = .slice (some ⟨g, 0, none⟩) kids.length c ∧ kids.length ≤ c ∧ ok g ∧ base ≤ g ∧ w.heap[g]? = some (.cells cells 28 (0, 0)) ∧ NMs w base ok cells 0 kids))
def NMs (w : World) (base : Nat) (ok : Nat → Prop) (cells : Array Value) (i : Nat) : List Nd → Prop
  | [] => True
  | k :: ks => (∃ cs, NM w base ok k cs ∧ ∀ j u, cs[j]? = some u → cells[i * 8 + j]? = some u) ∧ NMs w base ok cells (i + 1) ks
end

theorem add_off0 (g j : Nat) : (⟨g, 0, none⟩ : Addr).add j = ⟨g, j, none⟩ := by
  unfold Addr.add; split
  · simp_all
  · simp
theorem cell_of_cells {w : World} {g : Nat} {cells : Array Value} {t : TypeId} {fr : Nat × Nat} (h : w.heap[g]? = some (.cells cells t fr)) (j : Nat) : w.cell? ⟨g, j, none⟩ = cells[j]? := by
  simp [World.cell?, h]

mutual
theorem NK_below {w w1 : World} (hb : Below w.heap.size w w1) : ∀ (n : Nd) (cs : List Value), NK w n cs → NK w1 n cs
  | .mk op s0 s1 s2 s3 mn mx kids, cs, h => by
    unfold NK at h ⊢
    obtain ⟨A, c, h1, h2, h3, h4⟩ := h
    exact ⟨A, c, h1, h2, h3, NKs_below hb A 0 kids h4⟩
theorem NKs_below {w w1 : World} (hb : Below w.heap.size w w1) (A : Option Addr) (i : Nat) : ∀ (ks : List Nd), NKs w A i ks → NKs w1 A i ks
  | [], _ => by unfold NKs; trivial
  | k :: ks, h => by
    unfold NKs at h ⊢
    obtain ⟨⟨ad, cs, h1, h2, h3⟩, h4⟩ := h
    exact ⟨⟨ad, cs, h1, NK_below hb k cs h2, fun j u hu => pw_cell_below hb (h3 j u hu)⟩, NKs_below hb A (i + 1) ks h4⟩
end
theorem NKs_get {w : World} {A : Option Addr} : ∀ (ks : List Nd) (i : Nat), NKs w A i ks → ∀ j n, ks[j]? = some n → ∃ ad cs, A = some ad ∧ NK w n cs ∧ ∀ t u, cs[t]? = some u → w.cell? (ad.add ((i + j) * 8 + t)) = some u
  | [], _, _ => fun j n h => by simp at h
  | k :: ks, i, h => fun j n hj => by
    unfold NKs at h
    cases j with
    | zero =>
      simp only [List.getElem?_cons_zero, Option.some.injEq] at hj
      subst hj
      simpa using h.1
    | succ j =>
      have := NKs_get ks (i + 1) h.2 j n (by simpa using hj)
      rw [show i + 1 + j = i + (j + 1) by omega] at this
      exact this
theorem NKs_mk {w : World} {ad : Addr} : ∀ (ks : List Nd) (i : Nat), (∀ j n, ks[j]? = some n → ∃ cs, NK w n cs ∧ ∀ t u, cs[t]? = some u → w.cell? (ad.add ((i + j) * 8 + t)) = some u) → NKs w (some ad) i ks
  | [], _, _ => by unfold NKs; trivial
  | k :: ks, i, h => by
    unfold NKs
    refine ⟨?_, NKs_mk ks (i + 1) (fun j n hj => ?_)⟩
    · obtain ⟨cs, h1, h2⟩ := h 0 k (by simp)
      exact ⟨ad, cs, rfl, h1, by simpa using h2⟩
    · have := h (j + 1) n (by simpa using hj)
      rw [show i + (j + 1) = i + 1 + j by omega] at this
      exact this
mutual
theorem NM_mono {w : World} {base : Nat} {ok ok' : Nat → Prop} (hm : ∀ k, ok k → ok' k) : ∀ (n : Nd) (cs : List Value), NM w base ok n cs → NM w base ok' n cs
  | .mk op s0 s1 s2 s3 mn mx kids, cs, h => by
    unfold NM at h ⊢
    obtain ⟨v, h1, h2, h3⟩ := h
    refine ⟨v, h1, h2, ?_⟩
    rcases h3 with h3 | ⟨g, c, cells, h3, h4, h5, h6, h7, h8⟩
    · exact .inl h3
    · exact .inr ⟨g, c, cells, h3, h4, hm g h5, h6, h7, NMs_mono hm cells 0 kids h8⟩
theorem NMs_mono {w : World} {base : Nat} {ok ok' : Nat → Prop} (hm : ∀ k, ok k → ok' k) (cells : Array Value) (i : Nat) : ∀ (ks : List Nd), NMs w base ok cells i ks → NMs w base ok' cells i ks
  | [], _ => by unfold NMs; trivial
  | k :: ks, h => by
    unfold NMs at h ⊢
    obtain ⟨⟨cs, h1, h2⟩, h3⟩ := h
    exact ⟨⟨cs, NM_mono hm k cs h1, h2⟩, NMs_mono hm cells (i + 1) ks h3⟩
end
mutual
theorem NM_lower {w : World} {base base' : Nat} {ok : Nat → Prop} (hb : base' ≤ base) : ∀ (n : Nd) (cs : List Value), NM w base ok n cs → NM w base' ok n cs
  | .mk op s0 s1 s2 s3 mn mx kids, cs, h => by
    unfold NM at h ⊢
    obtain ⟨v, h1, h2, h3⟩ := h
    refine ⟨v, h1, h2, ?_⟩
    rcases h3 with h3 | ⟨g, c, cells, h3, h4, h5, h6, h7, h8⟩
    · exact .inl h3
    · exact .inr ⟨g, c, cells, h3, h4, h5, Nat.le_trans hb h6, h7, NMs_lower hb cells 0 kids h8⟩
theorem NMs_lower {w : World} {base base' : Nat} {ok : Nat → Prop} (hb : base' ≤ base) (cells : Array Value) (i : Nat) : ∀ (ks : List Nd), NMs w base ok cells i ks → NMs w base' ok cells i ks
  | [], _ => by unfold NMs; trivial
  | k :: ks, h => by
    unfold NMs at h ⊢
    obtain ⟨⟨cs, h1, h2⟩, h3⟩ := h
    exact ⟨⟨cs, NM_lower hb k cs h1, h2⟩, NMs_lower hb cells (i + 1) ks h3⟩
end
mutual
theorem NM_move {w w1 : World} {base : Nat} {ok : Nat → Prop} (hm : ∀ k, ok k → w1.heap[k]? = w.heap[k]?) : ∀ (n : Nd) (cs : List Value), NM w base ok n cs → NM w1 base ok n cs
  | .mk op s0 s1 s2 s3 mn mx kids, cs, h => by
    unfold NM at h ⊢
    obtain ⟨v, h1, h2, h3⟩ := h
    refine ⟨v, h1, h2, ?_⟩
    rcases h3 with h3 | ⟨g, c, cells, h3, h4, h5, h6, h7, h8⟩
    · exact .inl h3
    · exact .inr ⟨g, c, cells, h3, h4, h5, h6, (hm g h5).trans h7, NMs_move hm cells 0 kids h8⟩
theorem NMs_move {w w1 : World} {base : Nat} {ok : Nat → Prop} (hm : ∀ k, ok k → w1.heap[k]? = w.heap[k]?) (cells : Array Value) (i : Nat) : ∀ (ks : List Nd), NMs w base ok cells i ks → NMs w1 base ok cells i ks
  | [], _ => by unfold NMs; trivial
  | k :: ks, h => by
    unfold NMs at h ⊢
    obtain ⟨⟨cs, h1, h2⟩, h3⟩ := h
    exact ⟨⟨cs, NM_move hm k cs h1, h2⟩, NMs_move hm cells (i + 1) ks h3⟩
end
mutual
theorem NM_bound {w : World} {base : Nat} {ok : Nat → Prop} : ∀ (n : Nd) (cs : List Value), NM w base ok n cs → NM w base (fun k => ok k ∧ base ≤ k ∧ k < w.heap.size ∧ ∃ q, q ∈ [28] ∧ ∃ cells, w.heap[k]? = some (.cells cells q (0, 0))) n cs
  | .mk op s0 s1 s2 s3 mn mx kids, cs, h => by
    unfold NM at h ⊢
    obtain ⟨v, h1, h2, h3⟩ := h
    refine ⟨v, h1, h2, ?_⟩
    rcases h3 with h3 | ⟨g, c, cells, h3, h4, h5, h6, h7, h8⟩
    · exact .inl h3
    · exact .inr ⟨g, c, cells, h3, h4, ⟨h5, h6, (Array.getElem?_eq_some_iff.1 h7).1, 28, by simp, cells, h7⟩, h6, h7, NMs_bound cells 0 kids h8⟩
theorem NMs_bound {w : World} {base : Nat} {ok : Nat → Prop} (cells : Array Value) (i : Nat) : ∀ (ks : List Nd), NMs w base ok cells i ks → NMs w base (fun k => ok k ∧ base ≤ k ∧ k < w.heap.size ∧ ∃ q, q ∈ [28] ∧ ∃ cells, w.heap[k]? = some (.cells cells q (0, 0))) cells i ks
  | [], _ => by unfold NMs; trivial
  | k :: ks, h => by
    unfold NMs at h ⊢
    obtain ⟨⟨cs, h1, h2⟩, h3⟩ := h
    exact ⟨⟨cs, NM_bound k cs h1, h2⟩, NMs_bound cells (i + 1) ks h3⟩
end
mutual
theorem NK_of_NM {w : World} {base : Nat} {ok : Nat → Prop} : ∀ (n : Nd) (cs : List Value), NM w base ok n cs → NK w n cs
  | .mk op s0 s1 s2 s3 mn mx kids, cs, h => by
    unfold NM at h
    unfold NK
    obtain ⟨v, h1, h2, h3⟩ := h
    rcases h3 with ⟨h3, h4⟩ | ⟨g, c, cells, h3, h4, h5, h6, h7, h8⟩
    · subst h3
      subst h4
      exact ⟨none, 0, h1, Nat.le_refl _, by simp, by unfold NKs; trivial⟩
    · subst h3
      exact ⟨some ⟨g, 0, none⟩, c, h1, h4, h2, NKs_of_NMs h7 0 kids h8⟩
theorem NKs_of_NMs {w : World} {base : Nat} {ok : Nat → Prop} {g : Nat} {cells : Array Value} (hg : w.heap[g]? = some (.cells cells 28 (0, 0))) (i : Nat) : ∀ (ks : List Nd), NMs w base ok cells i ks → NKs w (some ⟨g, 0, none⟩) i ks
  | [], _ => by unfold NKs; trivial
  | k :: ks, h => by
    unfold NMs at h
    unfold NKs
    obtain ⟨⟨cs, h1, h2⟩, h3⟩ := h
    exact ⟨⟨_, cs, rfl, NK_of_NM k cs h1, fun j u hu => by rw [add_off0, cell_of_cells hg]; exact h2 j u hu⟩, NKs_of_NMs hg (i + 1) ks h3⟩
end
theorem NK_cells {w : World} {n : Nd} {cs : List Value} (h : NK w n cs) : ∃ A c, cs = ndCells n (.slice A n.kids.length c) ∧ n.kids.length ≤ c ∧ n.kids.length ≤ 1000000 ∧ NKs w A 0 n.kids := by
  cases n with
  | mk op s0 s1 s2 s3 mn mx kids => unfold NK at h; exact h
/-- The kind of patterns. -/
def kNd : Kd Nd where
  sz := 8
  E := [28]
  K := NK
  M := NM
  K_len := fun h => by obtain ⟨A, c, rfl, _⟩ := NK_cells h; rfl
  K_one := fun h => by
    obtain ⟨A, c, rfl, _⟩ := NK_cells h
    intro u hu
    simp only [ndCells, List.mem_cons, List.not_mem_nil, or_false] at hu
    rcases hu with rfl | rfl | rfl | rfl | rfl | rfl | rfl | rfl <;> rfl
  K_below := fun hb h => NK_below hb _ _ h
  K_of_M := fun h => NK_of_NM _ _ h
  M_mono := fun hm h => NM_mono hm _ _ h
  M_bound := fun h => NM_bound _ _ h
  M_move := fun hm h => NM_move hm _ _ h
  M_lower := fun hb h => NM_lower hb _ _ h
/-- A pattern that is read. -/
def IsN (w : World) (n : Nd) (v : Value) : Prop := ∃ A c, v = ndVal n (.slice A n.kids.length c) ∧ n.kids.length ≤ c ∧ n.kids.length ≤ 1000000 ∧ NKs w A 0 n.kids
theorem IsN.below {w w1 : World} {n : Nd} {v : Value} (h : IsN w n v) (hb : Below w.heap.size w w1) : IsN w1 n v := by
  obtain ⟨A, c, h1, h2, h3, h4⟩ := h
  exact ⟨A, c, h1, h2, h3, NKs_below hb A 0 _ h4⟩
end Go.Proofs.Ytimhiacjoplkeaa
