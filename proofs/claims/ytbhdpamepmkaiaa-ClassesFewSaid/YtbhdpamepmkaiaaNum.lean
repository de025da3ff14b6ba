/- Numbers by the first coming of a key: plain. What classes.Of comes to is this, over the row of where each state leads. Own text. -/
import Derived.Test.YtbhdpamepmkaiaaOf
namespace Go.Proofs.Ytbhdpamepmkaiaa
open Go.Proofs.Ytbhdpamepmkaiaa.P Go.Proofs.Ytbhdpamepmkaiaa.Plain
set_option linter.unusedVariables false

section
variable {α β : Type} [DecidableEq α] [DecidableEq β]
theorem List.findIdx_congr' {α : Type} {p q : α → Bool} : ∀ {l : List α}, (∀ x ∈ l, p x = q x) → l.findIdx p = l.findIdx q
  | [], _ => rfl
  | x :: l, h => by
    rw [List.findIdx_cons, List.findIdx_cons, h x (by simp), List.findIdx_congr' (fun y hy => h y (by simp [hy]))]
/-- The numbers below n whose key has not come ahead of them. -/
def firsts (key : Nat → α) : Nat → List Nat
  | 0 => []
  | b + 1 => if (firsts key b).any (fun x => decide (key x = key b)) then firsts key b else firsts key b ++ [b]
/-- Which of them has b's key. -/
def numN (key : Nat → α) (n b : Nat) : Nat := (firsts key n).findIdx (fun x => decide (key x = key b))
def numK (key : Nat → α) (b : Nat) : Nat := numN key (b + 1) b

theorem firsts_lt (key : Nat → α) (n : Nat) : ∀ x ∈ firsts key n, x < n := by
  induction n with
  | zero => intro x h; simp [firsts] at h
  | succ n ih =>
    intro x h
    rw [firsts] at h
    split at h
    · have := ih x h; omega
    · rcases List.mem_append.1 h with h | h
      · have := ih x h; omega
      · simp at h; omega
theorem firsts_has (key : Nat → α) (n : Nat) : ∀ b, b < n → ∃ x ∈ firsts key n, key x = key b := by
  induction n with
  | zero => intro b h; omega
  | succ n ih =>
    intro b h
    rw [firsts]
    split
    · rename_i hany
      rcases Nat.lt_or_ge b n with hb | hb
      · exact ih b hb
      · obtain rfl : b = n := by omega
        obtain ⟨x, hx, he⟩ := List.any_eq_true.1 hany
        exact ⟨x, hx, by simpa using he⟩
    · rcases Nat.lt_or_ge b n with hb | hb
      · obtain ⟨x, hx, he⟩ := ih b hb
        exact ⟨x, List.mem_append_left _ hx, he⟩
      · obtain rfl : b = n := by omega
        exact ⟨b, by simp, rfl⟩
/-- Later ones change nothing. -/
theorem numN_succ (key : Nat → α) (n b : Nat) (h : b < n) : numN key (n + 1) b = numN key n b := by
  unfold numN
  rw [firsts]
  split
  · rfl
  · obtain ⟨x, hx, he⟩ := firsts_has key n b h
    rw [List.findIdx_append, if_pos (List.findIdx_lt_length_of_exists ⟨x, hx, by simp [he]⟩)]
theorem numN_eq (key : Nat → α) (n b : Nat) (h : b < n) : numN key n b = numK key b := by
  induction n with
  | zero => omega
  | succ n ih =>
    rcases Nat.lt_or_ge b n with hb | hb
    · rw [numN_succ key n b hb, ih hb]
    · obtain rfl : b = n := by omega
      rfl
theorem numN_lt (key : Nat → α) (n b : Nat) (h : b < n) : numN key n b < (firsts key n).length := by
  obtain ⟨x, hx, he⟩ := firsts_has key n b h
  exact List.findIdx_lt_length_of_exists ⟨x, hx, by simp [he]⟩
theorem numN_key (key : Nat → α) (n b : Nat) (h : b < n) : key ((firsts key n)[numN key n b]'(numN_lt key n b h)) = key b := by
  have := List.findIdx_getElem (xs := firsts key n) (p := fun x => decide (key x = key b)) (w := numN_lt key n b h)
  exact of_decide_eq_true this
theorem numK_inj (key : Nat → α) (a b : Nat) : numK key a = numK key b ↔ key a = key b := by
  constructor
  · intro h
    have ha := numN_key key (a + b + 1) a (by omega)
    have hb := numN_key key (a + b + 1) b (by omega)
    have e : numN key (a + b + 1) a = numN key (a + b + 1) b := by rw [numN_eq _ _ _ (by omega), numN_eq _ _ _ (by omega), h]
    rw [← ha, ← hb]; congr 1; simp only [e]
  · intro h
    rw [← numN_eq key (a + b + 1) a (by omega), ← numN_eq key (a + b + 1) b (by omega)]
    unfold numN; rw [h]
theorem firsts_kernel (key : Nat → α) (key' : Nat → β) (N : Nat) (h : ∀ a b, a < N → b < N → (key a = key b ↔ key' a = key' b)) (n : Nat) (hn : n ≤ N) : firsts key n = firsts key' n := by
  induction n with
  | zero => rfl
  | succ n ih =>
    rw [firsts, firsts, ih (by omega)]
    have e : (firsts key' n).any (fun x => decide (key x = key n)) = (firsts key' n).any (fun x => decide (key' x = key' n)) := by
      rw [Bool.eq_iff_iff, List.any_eq_true, List.any_eq_true]
      constructor
      · rintro ⟨x, hx, he⟩; exact ⟨x, hx, by simpa [h x n (by have := firsts_lt key' n x hx; omega) (by omega)] using he⟩
      · rintro ⟨x, hx, he⟩; exact ⟨x, hx, by simpa [h x n (by have := firsts_lt key' n x hx; omega) (by omega)] using he⟩
    rw [e]
theorem numK_kernel (key : Nat → α) (key' : Nat → β) (N : Nat) (h : ∀ a b, a < N → b < N → (key a = key b ↔ key' a = key' b)) (b : Nat) (hb : b < N) : numK key b = numK key' b := by
  unfold numK numN
  rw [firsts_kernel key key' N h _ (by omega)]
  refine List.findIdx_congr' ?_
  intro x hx
  have := firsts_lt key' (b + 1) x hx
  rw [decide_eq_decide]; exact h x b (by omega) hb
theorem firsts_len (key : Nat → α) (n : Nat) : (firsts key n).length ≤ n := by
  induction n with
  | zero => simp [firsts]
  | succ n ih =>
    rw [firsts]
    split
    · omega
    · rw [List.length_append, List.length_singleton]; omega
theorem firsts_pos (key : Nat → α) (n : Nat) (h : 0 < n) : 0 < (firsts key n).length := by
  obtain ⟨x, hx, _⟩ := firsts_has key n 0 h
  exact List.length_pos_of_mem hx
end

/-- Where the first k states lead to by a byte. -/
def sig (m : List S48) (k : Nat) (b : Nat) : List Int := (List.range k).map fun i : Nat => nextM m (i : Int) (b : Int)
theorem sig_succ (m : List S48) (k a b : Nat) : sig m (k + 1) a = sig m (k + 1) b ↔ sig m k a = sig m k b ∧ nextM m (k : Int) (a : Int) = nextM m (k : Int) (b : Int) := by
  unfold sig
  rw [List.range_succ, List.map_append, List.map_append]
  constructor
  · intro h
    have := List.append_inj h (by simp)
    exact ⟨this.1, by simpa using this.2⟩
  · rintro ⟨h1, h2⟩
    rw [h1]; simp [h2]

/-- The views' list is the keys of the first ones. -/
theorem look_map (key : Nat → Int × Int) (v : Int × Int) : ∀ (l : List Nat) (i : Nat), look v (l.map key) i = if (l.any fun x => decide (key x = v)) then some (i + l.findIdx (fun x => decide (key x = v))) else none := by
  intro l
  induction l with
  | nil => intro i; simp [look]
  | cons x l ih =>
    intro i
    simp only [List.map_cons, look, List.any_cons, List.findIdx_cons]
    by_cases h : v = key x
    · rw [if_pos h]; simp [h]
    · have h' : decide (key x = v) = false := by simp; exact fun e => h e.symm
      rw [if_neg h, ih, h']
      simp only [Bool.false_or, cond_false]
      split <;> simp <;> omega
theorem seenL_firsts (pl : List Int) (g : Int → Int) (n : Nat) : seenL pl g n = (firsts (fun b => (pl.getD b 0, g b)) n).map (fun b => (pl.getD b 0, g (b : Int))) := by
  induction n with
  | zero => rfl
  | succ n ih =>
    rw [seenL, firsts, ih]
    rw [look_map (fun b => (pl.getD b 0, g (b : Int))) (pl.getD n 0, g n)]
    by_cases h : ((firsts (fun b => (pl.getD b 0, g (b : Int))) n).any fun x => decide ((pl.getD x 0, g (x : Int)) = (pl.getD n 0, g (n : Int)))) = true
    · rw [if_pos h, if_neg (by simp), if_pos h]
    · rw [if_neg h, if_pos rfl, if_neg h, List.map_append]; rfl
theorem refP_at (pl : List Int) (g : Int → Int) (n : Nat) (hn : n ≤ pl.length) : ∀ b, b < n → (refP pl g n).getD b 0 = (numK (fun b => (pl.getD b 0, g (b : Int))) b : Int) := by
  induction n with
  | zero => intro b h; omega
  | succ n ih =>
    intro b hb
    rw [refP]
    rcases Nat.lt_or_ge b n with h | h
    · rw [← ih (by omega) b h]
      simp only [List.getD_eq_getElem?_getD]
      rw [List.getElem?_set_ne (by omega)]
    · obtain rfl : b = n := by omega
      rw [List.getD_eq_getElem?_getD, List.getElem?_set_self (by rw [refP_len]; omega), Option.getD_some, seenL_firsts, look_map (fun b => (pl.getD b 0, g (b : Int))) (pl.getD b 0, g b)]
      have hh := firsts_has (fun b => (pl.getD b 0, g (b : Int))) (b + 1) b (by omega)
      obtain ⟨x, hx, he⟩ := hh
      rw [if_pos (List.any_eq_true.2 ⟨x, hx, by simpa using he⟩)]
      simp only [Option.getD_some, Nat.zero_add]; rfl
theorem partL_num (m : List S48) (k : Nat) : (∀ b, b < 256 → (partL m k).getD b 0 = (numK (sig m k) b : Int)) ∧ manyL m k = (firsts (sig m k) 256).length := by
  induction k with
  | zero =>
    have e0 : ∀ n, 0 < n → firsts (sig m 0) n = [0] := by
      intro n hn
      induction n with
      | zero => omega
      | succ n ih =>
        rcases Nat.eq_zero_or_pos n with h | h
        · subst h; rfl
        · rw [firsts, ih h]; simp [sig]
    refine ⟨fun b hb => ?_, by rw [manyL, e0 256 (by omega)]; rfl⟩
    rw [partL, List.getD_eq_getElem?_getD, List.getElem?_replicate, if_pos hb]
    unfold numK numN
    rw [e0 _ (by omega)]; simp [sig]
  | succ k ih =>
    have hk : ∀ a b : Nat, a < 256 → b < 256 → ((((partL m k).getD a 0, nextM m k (a : Int)) : Int × Int) = ((partL m k).getD b 0, nextM m k (b : Int)) ↔ sig m (k + 1) a = sig m (k + 1) b) := by
      intro a b ha hb
      rw [sig_succ, ← numK_inj (sig m k) a b, Prod.mk.injEq, ih.1 a ha, ih.1 b hb]
      constructor
      · rintro ⟨h1, h2⟩; exact ⟨by omega, h2⟩
      · rintro ⟨h1, h2⟩; exact ⟨by omega, h2⟩
    refine ⟨fun b hb => ?_, ?_⟩
    · rw [partL, refP_at _ _ 256 (by rw [partL_len]; omega) b hb, numK_kernel _ (sig m (k + 1)) 256 hk b hb]
    · rw [manyL, seenL_firsts, List.length_map, firsts_kernel _ (sig m (k + 1)) 256 hk 256 (Nat.le_refl _)]
end Go.Proofs.Ytbhdpamepmkaiaa
