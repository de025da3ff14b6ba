/- Patterns: plainly, which places they lead to. Own text. -/
import Derived.Test.YtimhiacjoplkeaaSet
namespace Go.Proofs.Ytimhiacjoplkeaa
set_option linter.unusedVariables false

def byteN (s : ByteArray) (i : Nat) : Nat := (s.data.toList.getD i 0).toNat
def dlt (i : Nat) : Nat → Bool := fun j => j == i
/-- f, so often. -/
def itr (f : (Nat → Bool) → Nat → Bool) : Nat → (Nat → Bool) → Nat → Bool
  | 0, P => P
  | t + 1, P => itr f t (f P)
/-- What comes in so many steps, or fewer. -/
def upTo (f : (Nat → Bool) → Nat → Bool) : Nat → (Nat → Bool) → Nat → Bool
  | 0, P => P
  | t + 1, P => fun j => P j || upTo f t (f P) j
mutual
def stp (s : ByteArray) : Nd → ((Nat → Bool) → Nat → Bool)
  | .mk op s0 s1 s2 s3 mn mx kids =>
    if op = 0 then fun P j => decide (0 < j) && decide (j ≤ s.size) && P (j - 1) && hasS s0 s1 s2 s3 (byteN s (j - 1))
    else if op = 1 then stpC s kids
    else if op = 2 then stpA s kids
    else if op = 3 then stpR s mn mx kids
    else fun P j => (List.range (j + 1)).any fun i => P i && (decide (j ≤ s.size) && stpX s (decide (op = 5)) kids i j)
def stpC (s : ByteArray) : List Nd → ((Nat → Bool) → Nat → Bool)
  | [] => fun P => P
  | k :: ks => fun P => stpC s ks (stp s k P)
def stpA (s : ByteArray) : List Nd → ((Nat → Bool) → Nat → Bool)
  | [] => fun _ _ => false
  | k :: ks => fun P j => stp s k P j || stpA s ks P j
def stpR (s : ByteArray) (mn mx : Int) : List Nd → ((Nat → Bool) → Nat → Bool)
  | [] => fun P => P
  | k :: _ => fun P => upTo (stp s k) (if mx < 0 then s.size + 1 else (mx - mn).toNat) (itr (stp s k) mn.toNat P)
def stpX (s : ByteArray) (neg : Bool) : List Nd → Nat → Nat → Bool
  | [] => fun _ _ => true
  | k :: ks => fun i j => (stp s k (dlt i) j != neg) && stpX s neg ks i j
end
mutual
/-- A well-formed pattern: a Rep has a kid. -/
def Wf : Nd → Prop
  | .mk op s0 s1 s2 s3 mn mx kids => (op = 3 → kids ≠ []) ∧ (0 ≤ mn ∧ mn ≤ 1000) ∧ mx ≤ 1000 ∧ Wfs kids
def Wfs : List Nd → Prop
  | [] => True
  | k :: ks => Wf k ∧ Wfs ks
end
/-- f is told by what it does from each place. -/
structure Lin (N : Nat) (f : (Nat → Bool) → Nat → Bool) : Prop where
  add : ∀ P j, f P j = true ↔ ∃ i, P i = true ∧ f (dlt i) j = true
  le : ∀ i j, f (dlt i) j = true → i ≤ j ∧ (i ≤ N → j ≤ N)
theorem dlt_iff {i j : Nat} : dlt i j = true ↔ j = i := by simp [dlt]
theorem Lin.id (N : Nat) : Lin N (fun P => P) := ⟨fun P j => ⟨fun h => ⟨j, h, dlt_iff.2 rfl⟩, fun ⟨i, h, h2⟩ => by rw [dlt_iff.1 h2]; exact h⟩, fun i j h => by rw [dlt_iff.1 h]; exact ⟨Nat.le_refl _, fun h => h⟩⟩
theorem Lin.comp {N : Nat} {f g : (Nat → Bool) → Nat → Bool} (hf : Lin N f) (hg : Lin N g) : Lin N (fun P => g (f P)) := by
  refine ⟨fun P j => ?_, fun i j h => ?_⟩
  · show g (f P) j = true ↔ ∃ i, P i = true ∧ g (f (dlt i)) j = true
    rw [hg.add]
    constructor
    · rintro ⟨i, h1, h2⟩
      obtain ⟨k, h3, h4⟩ := (hf.add P i).1 h1
      exact ⟨k, h3, (hg.add _ _).2 ⟨i, h4, h2⟩⟩
    · rintro ⟨k, h3, h4⟩
      obtain ⟨i, h1, h2⟩ := (hg.add _ _).1 h4
      exact ⟨i, (hf.add P i).2 ⟨k, h3, h1⟩, h2⟩
  · obtain ⟨k, h1, h2⟩ := (hg.add _ _).1 h
    have a := hf.le i k h1
    have b := hg.le k j h2
    exact ⟨Nat.le_trans a.1 b.1, fun h => b.2 (a.2 h)⟩
theorem Lin.or {N : Nat} {f g : (Nat → Bool) → Nat → Bool} (hf : Lin N f) (hg : Lin N g) : Lin N (fun P j => f P j || g P j) := by
  refine ⟨fun P j => ?_, fun i j h => ?_⟩
  · simp only [Bool.or_eq_true]
    rw [hf.add, hg.add]
    constructor
    · rintro (⟨i, h1, h2⟩ | ⟨i, h1, h2⟩)
      · exact ⟨i, h1, .inl h2⟩
      · exact ⟨i, h1, .inr h2⟩
    · rintro ⟨i, h1, h2 | h2⟩
      · exact .inl ⟨i, h1, h2⟩
      · exact .inr ⟨i, h1, h2⟩
  · simp only [Bool.or_eq_true] at h
    rcases h with h | h
    · exact hf.le i j h
    · exact hg.le i j h
theorem Lin.itr {N : Nat} {f : (Nat → Bool) → Nat → Bool} (hf : Lin N f) : ∀ t, Lin N (itr f t)
  | 0 => Lin.id N
  | t + 1 => hf.comp (Lin.itr hf t)
theorem Lin.upTo {N : Nat} {f : (Nat → Bool) → Nat → Bool} (hf : Lin N f) : ∀ t, Lin N (upTo f t)
  | 0 => Lin.id N
  | t + 1 => (Lin.id N).or (hf.comp (Lin.upTo hf t))
mutual
theorem stp_lin (s : ByteArray) : ∀ n : Nd, Lin s.size (stp s n)
  | .mk op s0 s1 s2 s3 mn mx kids => by
    have hC := stpC_lin s kids
    have hA := stpA_lin s kids
    have hR := stpR_lin s mn mx kids
    unfold stp
    by_cases h0 : op = 0
    · simp only [if_pos h0]
      refine ⟨fun P j => ?_, fun i j h => ?_⟩
      · simp only [Bool.and_eq_true, decide_eq_true_eq]
        constructor
        · rintro ⟨⟨⟨h1, h2⟩, h3⟩, h4⟩
          exact ⟨j - 1, h3, ⟨⟨h1, h2⟩, dlt_iff.2 rfl⟩, h4⟩
        · rintro ⟨i, h3, ⟨⟨h1, h2⟩, h5⟩, h4⟩
          rw [dlt_iff.1 h5]
          exact ⟨⟨⟨h1, h2⟩, h3⟩, by rw [← dlt_iff.1 h5]; exact h4⟩
      · simp only [Bool.and_eq_true, decide_eq_true_eq] at h
        obtain ⟨⟨⟨h1, h2⟩, h5⟩, h4⟩ := h
        have := dlt_iff.1 h5
        exact ⟨by omega, fun _ => h2⟩
    · by_cases h1 : op = 1
      · simp only [if_neg h0, if_pos h1]; exact hC
      · by_cases h2 : op = 2
        · simp only [if_neg h0, if_neg h1, if_pos h2]; exact hA
        · by_cases h3 : op = 3
          · simp only [if_neg h0, if_neg h1, if_neg h2, if_pos h3]; exact hR
          · simp only [if_neg h0, if_neg h1, if_neg h2, if_neg h3]
            refine ⟨fun P j => ?_, fun i j h => ?_⟩
            · simp only [List.any_eq_true, List.mem_range, Bool.and_eq_true, decide_eq_true_eq]
              constructor
              · rintro ⟨i, h4, h5, h6⟩
                exact ⟨i, h5, i, h4, dlt_iff.2 rfl, h6⟩
              · rintro ⟨i, h5, k, h4, h7, h6⟩
                rw [dlt_iff.1 h7] at h4 h6
                exact ⟨i, h4, h5, h6⟩
            · simp only [List.any_eq_true, List.mem_range, Bool.and_eq_true, decide_eq_true_eq] at h
              obtain ⟨k, h4, h5, h6, h7⟩ := h
              have := dlt_iff.1 h5
              exact ⟨by omega, fun _ => h6⟩
theorem stpC_lin (s : ByteArray) : ∀ ks : List Nd, Lin s.size (stpC s ks)
  | [] => by unfold stpC; exact Lin.id _
  | k :: ks => by
    have h1 := stp_lin s k
    have h2 := stpC_lin s ks
    unfold stpC; exact h1.comp h2
theorem stpA_lin (s : ByteArray) : ∀ ks : List Nd, Lin s.size (stpA s ks)
  | [] => by
    unfold stpA
    exact ⟨fun P j => by simp, fun i j h => by simp at h⟩
  | k :: ks => by
    have h1 := stp_lin s k
    have h2 := stpA_lin s ks
    unfold stpA; exact h1.or h2
theorem stpR_lin (s : ByteArray) (mn mx : Int) : ∀ ks : List Nd, Lin s.size (stpR s mn mx ks)
  | [] => by unfold stpR; exact Lin.id _
  | k :: _ => by
    have h1 := stp_lin s k
    unfold stpR; exact (h1.itr _).comp (h1.upTo _)
end
end Go.Proofs.Ytimhiacjoplkeaa
