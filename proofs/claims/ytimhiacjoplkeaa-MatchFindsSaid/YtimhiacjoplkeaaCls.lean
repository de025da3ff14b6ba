/- Patterns, plainly: when a repetition leads nowhere else. Own text. -/
import Derived.Test.YtimhiacjoplkeaaSem
import Derived.Test.YtimhiacjoplkeaaMrk
namespace Go.Proofs.Ytimhiacjoplkeaa
set_option linter.unusedVariables false
theorem itr_succ (f : (Nat → Bool) → Nat → Bool) : ∀ (t : Nat) (P : Nat → Bool), itr f (t + 1) P = f (itr f t P)
  | 0, P => rfl
  | t + 1, P => by
    show itr f (t + 1) (f P) = f (itr f t (f P))
    exact itr_succ f t (f P)
theorem upTo_iff (f : (Nat → Bool) → Nat → Bool) : ∀ (t : Nat) (P : Nat → Bool) (j : Nat), upTo f t P j = true ↔ ∃ u, u ≤ t ∧ itr f u P j = true
  | 0, P, j => by
    constructor
    · intro h; exact ⟨0, Nat.le_refl _, h⟩
    · rintro ⟨u, h1, h2⟩
      obtain rfl : u = 0 := by omega
      exact h2
  | t + 1, P, j => by
    show (P j || upTo f t (f P) j) = true ↔ _
    rw [Bool.or_eq_true, upTo_iff f t (f P) j]
    constructor
    · rintro (h | ⟨u, h1, h2⟩)
      · exact ⟨0, by omega, h⟩
      · exact ⟨u + 1, by omega, h2⟩
    · rintro ⟨u, h1, h2⟩
      cases u with
      | zero => exact .inl h2
      | succ u => exact .inr ⟨u, by omega, h2⟩
theorem bool_ext {a b : Bool} (h : a = true ↔ b = true) : a = b := by cases a <;> cases b <;> simp_all
theorem upTo_succ (f : (Nat → Bool) → Nat → Bool) (t : Nat) (P : Nat → Bool) (j : Nat) : upTo f (t + 1) P j = orP (upTo f t P) (f (itr f t P)) j := by
  refine bool_ext ?_
  simp only [orP, Bool.or_eq_true, upTo_iff]
  rw [← itr_succ f t P]
  constructor
  · rintro ⟨u, h1, h2⟩
    rcases Nat.lt_or_ge t u with h | h
    · obtain rfl : u = t + 1 := by omega
      exact .inr h2
    · exact .inl ⟨u, h, h2⟩
  · rintro (⟨u, h1, h2⟩ | h)
    · exact ⟨u, by omega, h2⟩
    · exact ⟨t + 1, Nat.le_refl _, h⟩
theorem itr_bd {N : Nat} {f : (Nat → Bool) → Nat → Bool} (hf : Lin N f) {P : Nat → Bool} (hP : ∀ i, P i = true → i ≤ N) (t : Nat) : ∀ i, itr f t P i = true → i ≤ N := fun i h => by
  obtain ⟨k, h1, h2⟩ := ((hf.itr t).add P i).1 h
  exact ((hf.itr t).le k i h2).2 (hP k h1)
theorem lin_bd {N : Nat} {f : (Nat → Bool) → Nat → Bool} (hf : Lin N f) {P : Nat → Bool} (hP : ∀ i, P i = true → i ≤ N) : ∀ i, f P i = true → i ≤ N := fun i h => by
  obtain ⟨k, h1, h2⟩ := (hf.add P i).1 h
  exact (hf.le k i h2).2 (hP k h1)
theorem mem_trues {N : Nat} {P : Nat → Bool} {i : Nat} : i ∈ trues N P ↔ i ≤ N ∧ P i = true := by
  unfold trues
  rw [List.mem_filter, List.mem_range]
  constructor <;> (rintro ⟨h1, h2⟩; exact ⟨by omega, h2⟩)
theorem anyNew_iff {N : Nat} {P Q : Nat → Bool} : anyNew N P Q = true ↔ ∃ i, i ≤ N ∧ Q i = true ∧ P i = false := by
  unfold anyNew
  rw [List.any_eq_true]
  constructor
  · rintro ⟨i, h1, h2⟩
    obtain ⟨h3, h4⟩ := mem_trues.1 h1
    exact ⟨i, h3, h4, by simpa using h2⟩
  · rintro ⟨i, h1, h2, h3⟩
    exact ⟨i, mem_trues.2 ⟨h1, h2⟩, by simp [h3]⟩
/-- Nothing new in the next step: nothing new ever. -/
theorem closed {N : Nat} {f : (Nat → Bool) → Nat → Bool} (hf : Lin N f) {P : Nat → Bool} (hP : ∀ i, P i = true → i ≤ N) (t : Nat) (hn : anyNew N (upTo f t P) (f (itr f t P)) = false) :
    ∀ (u j : Nat), itr f u P j = true → upTo f t P j = true := by
  have hno : ∀ j, itr f (t + 1) P j = true → upTo f t P j = true := fun j h => by
    have hj := itr_bd hf hP (t + 1) j h
    rw [itr_succ] at h
    cases hu : upTo f t P j with
    | true => rfl
    | false => exact absurd (anyNew_iff.2 ⟨j, hj, h, hu⟩) (by rw [hn]; simp)
  intro u
  induction u with
  | zero => intro j h; exact (upTo_iff f t P j).2 ⟨0, by omega, h⟩
  | succ u ih =>
    intro j h
    rw [itr_succ] at h
    obtain ⟨i, h1, h2⟩ := (hf.add _ _).1 h
    obtain ⟨v, h3, h4⟩ := (upTo_iff f t P i).1 (ih i h1)
    have h5 : itr f (v + 1) P j = true := by rw [itr_succ]; exact (hf.add _ _).2 ⟨i, h4, h2⟩
    rcases Nat.lt_or_ge v t with h6 | h6
    · exact (upTo_iff f t P j).2 ⟨v + 1, by omega, h5⟩
    · obtain rfl : v = t := by omega
      exact hno j h5
theorem closed_eq {N : Nat} {f : (Nat → Bool) → Nat → Bool} (hf : Lin N f) {P : Nat → Bool} (hP : ∀ i, P i = true → i ≤ N) (t M : Nat) (ht : t ≤ M) (hn : anyNew N (upTo f t P) (f (itr f t P)) = false) (j : Nat) :
    upTo f M P j = upTo f t P j := by
  refine bool_ext ⟨fun h => ?_, fun h => ?_⟩
  · obtain ⟨u, _, h2⟩ := (upTo_iff f M P j).1 h
    exact closed hf hP t hn u j h2
  · obtain ⟨u, h1, h2⟩ := (upTo_iff f t P j).1 h
    exact (upTo_iff f M P j).2 ⟨u, by omega, h2⟩
def cnt (N : Nat) (P : Nat → Bool) : Nat := (trues N P).length
theorem cnt_le (N : Nat) (P : Nat → Bool) : cnt N P ≤ N + 1 := upto_len P (N + 1)
theorem cnt_lt_aux (P Q : Nat → Bool) (h : ∀ i, P i = true → Q i = true) : ∀ k : Nat, ((List.range k).filter P).length ≤ ((List.range k).filter Q).length ∧ ((∃ i, i < k ∧ Q i = true ∧ P i = false) → ((List.range k).filter P).length < ((List.range k).filter Q).length)
  | 0 => ⟨by simp, fun ⟨i, h1, _⟩ => absurd h1 (by omega)⟩
  | k + 1 => by
    obtain ⟨h1, h2⟩ := cnt_lt_aux P Q h k
    rw [upto_succ, upto_succ]
    by_cases hp : P k = true
    · rw [if_pos hp, if_pos (h k hp), List.length_append, List.length_append]
      refine ⟨by simp; exact h1, fun ⟨i, h3, h4, h5⟩ => ?_⟩
      have : i < k := by
        rcases Nat.lt_or_ge i k with h6 | h6
        · exact h6
        · obtain rfl : i = k := by omega
          rw [hp] at h5; cases h5
      have := h2 ⟨i, this, h4, h5⟩
      simp; omega
    · rw [if_neg hp]
      by_cases hq : Q k = true
      · rw [if_pos hq, List.length_append, List.length_singleton]
        exact ⟨by omega, fun _ => by omega⟩
      · rw [if_neg hq]
        refine ⟨h1, fun ⟨i, h3, h4, h5⟩ => h2 ⟨i, ?_, h4, h5⟩⟩
        rcases Nat.lt_or_ge i k with h6 | h6
        · exact h6
        · obtain rfl : i = k := by omega
          exact absurd h4 hq
theorem cnt_fresh {N : Nat} {P Q : Nat → Bool} (h : anyNew N P Q = true) : cnt N P < cnt N (orP P Q) := by
  obtain ⟨i, h1, h2, h3⟩ := anyNew_iff.1 h
  exact (cnt_lt_aux P (orP P Q) (fun i hi => by simp [orP, hi]) (N + 1)).2 ⟨i, by omega, by simp [orP, h2], h3⟩
end Go.Proofs.Ytimhiacjoplkeaa
