/- Machines as bytes: plain functions on lists of numbers, and what holds of them. Own text: no walk, no printed function in it. -/
import Derived.Test.YtokdggmobhnnpaaP0
namespace Go.Proofs.Ytokdggmobhnnpaa.Enc
open Go.RowKit Go.Proofs.Ytokdggmobhnnpaa.P
set_option linter.unusedVariables false

/-- A number's bytes. -/
def num (n : Nat) : List Int := if h : n < 128 then [(n : Int)] else ((n % 128 + 128 : Nat) : Int) :: num (n / 128)
termination_by n
decreasing_by omega
theorem num_lt (n : Nat) (h : n < 128) : num n = [(n : Int)] := by rw [num, dif_pos h]
theorem num_ge (n : Nat) (h : ¬ n < 128) : num n = ((n % 128 + 128 : Nat) : Int) :: num (n / 128) := by rw [num, dif_neg h]
theorem num_len_pos (n : Nat) : 0 < (num n).length := by
  by_cases h : n < 128
  · rw [num_lt n h]; simp
  · rw [num_ge n h]; simp
theorem num_len_le (i : Nat) : ∀ n : Nat, n < 128 ^ (i + 1) → (num n).length ≤ i + 1 := by
  induction i with
  | zero => intro n h; rw [num_lt n (by simpa using h)]; simp
  | succ i ih =>
    intro n h
    by_cases h1 : n < 128
    · rw [num_lt n h1]; simp
    · rw [num_ge n h1, List.length_cons]
      have := ih (n / 128) (by rw [Nat.pow_succ] at h; exact Nat.div_lt_of_lt_mul (by rw [Nat.mul_comm]; exact h))
      omega
theorem num_len10 (n : Nat) (h : n < 18446744073709551616) : (num n).length ≤ 10 :=
  num_len_le 9 n (Nat.lt_trans h (by decide))
theorem num_bd (n : Nat) : ∀ x ∈ num n, 0 ≤ x ∧ x ≤ 255 := by
  induction n using Nat.strongRecOn with
  | _ n ih =>
    intro x hx
    by_cases h : n < 128
    · rw [num_lt n h] at hx; simp at hx; omega
    · rw [num_ge n h] at hx
      rcases List.mem_cons.1 hx with rfl | hx
      · omega
      · exact ih (n / 128) (by omega) x hx
/-- The number that bytes begin with, from byte i of it on, and how many bytes it has. -/
def dec (i : Nat) : List Int → Option (Nat × Nat)
  | [] => none
  | c :: r => if 10 ≤ i then none else
    if c < 128 then (if c = 0 ∧ 0 < i then none else if i = 9 ∧ 1 < c then none else some (c.toNat, 1))
    else match dec (i + 1) r with
      | some (m, k) => some (c.toNat - 128 + 128 * m, k + 1)
      | none => none
theorem dec_num (n : Nat) : ∀ (i : Nat) (r : List Int), i ≤ 9 → n < 2 ^ (64 - 7 * i) → (n ≠ 0 ∨ i = 0) → dec i (num n ++ r) = some (n, (num n).length) := by
  induction n using Nat.strongRecOn with
  | _ n ih =>
    intro i r hi hn h0
    by_cases h : n < 128
    · rw [num_lt n h]
      simp only [List.cons_append, List.nil_append, dec]
      have h9 : ¬ (i = 9 ∧ (1 : Int) < (n : Int)) := by rintro ⟨rfl, h1⟩; simp at hn; omega
      rw [if_neg (by omega), if_pos (by omega), if_neg (by omega), if_neg h9]
      simp
    · rw [num_ge n h]
      have hi9 : i ≤ 8 := by
        rcases Nat.lt_or_ge i 9 with h1 | h1
        · omega
        · obtain rfl : i = 9 := by omega
          simp at hn; omega
      have hp : 2 ^ (64 - 7 * i) = 2 ^ (64 - 7 * (i + 1)) * 128 := by
        rw [show (128 : Nat) = 2 ^ 7 from rfl, ← Nat.pow_add]; congr 1; omega
      have hI := ih (n / 128) (by omega) (i + 1) r (by omega) (Nat.div_lt_of_lt_mul (by rw [hp] at hn; rw [Nat.mul_comm]; exact hn)) (.inl (by omega))
      simp only [List.cons_append, dec]
      rw [if_neg (by omega), if_neg (by omega), hI]
      simp only [List.length_cons, Option.some.injEq, Prod.mk.injEq, and_true]
      omega
theorem dec_spec : ∀ (b : List Int) (i n k : Nat), (∀ x ∈ b, 0 ≤ x ∧ x ≤ 255) → dec i b = some (n, k) → b = num n ++ b.drop k ∧ k = (num n).length ∧ n < 2 ^ (64 - 7 * i) ∧ (0 < i → n ≠ 0) ∧ i ≤ 9 := by
  intro b
  induction b with
  | nil => intro i n k _ h; simp [dec] at h
  | cons c r ih =>
    intro i n k hb h
    have hc := hb c (by simp)
    simp only [dec] at h
    split at h
    · cases h
    · rename_i hi
      split at h
      · rename_i h1
        split at h
        · cases h
        · rename_i h2
          split at h
          · cases h
          · rename_i h3
            simp only [Option.some.injEq, Prod.mk.injEq] at h
            obtain ⟨rfl, rfl⟩ := h
            have e : num c.toNat = [c] := by rw [num_lt _ (by omega)]; simp; omega
            refine ⟨by rw [e]; simp, by rw [e]; simp, ?_, by omega, by omega⟩
            rcases Nat.lt_or_ge i 9 with h4 | h4
            · have hp : 2 ^ 7 ≤ 2 ^ (64 - 7 * i) := Nat.pow_le_pow_right (by decide) (by omega)
              have : (2 : Nat) ^ 7 = 128 := rfl
              omega
            · obtain rfl : i = 9 := by omega
              simp; omega
      · rename_i h1
        split at h
        · rename_i m k' hd
          simp only [Option.some.injEq, Prod.mk.injEq] at h
          obtain ⟨rfl, rfl⟩ := h
          obtain ⟨e1, e2, e3, e4, e5⟩ := ih (i + 1) m k' (fun x hx => hb x (by simp [hx])) hd
          have hm := e4 (by omega)
          have en : num (c.toNat - 128 + 128 * m) = c :: num m := by
            rw [num_ge _ (by omega)]
            congr 1
            · omega
            · congr 1; omega
          have hp : 2 ^ (64 - 7 * i) = 2 ^ (64 - 7 * (i + 1)) * 128 := by
            rw [show (128 : Nat) = 2 ^ 7 from rfl, ← Nat.pow_add]; congr 1; omega
          refine ⟨by rw [en, List.drop_succ_cons, List.cons_append, ← e1], by rw [en, List.length_cons, e2], ?_, by omega, by omega⟩
          rw [hp]
          omega
        · cases h
theorem dec_none (b : List Int) (hb : ∀ x ∈ b, 0 ≤ x ∧ x ≤ 255) (h : dec 0 b = none) (n : Nat) (hn : n < 18446744073709551616) (r : List Int) : b ≠ num n ++ r := by
  rintro rfl
  rw [dec_num n 0 r (by omega) (by simpa using hn) (.inr rfl)] at h
  cases h
theorem num_inj (n n' : Nat) (hn : n < 18446744073709551616) (hn' : n' < 18446744073709551616) (r r' : List Int) (h : num n ++ r = num n' ++ r') : n = n' ∧ r = r' := by
  have h1 := dec_num n 0 r (by omega) (by simpa using hn) (.inr rfl)
  have h2 := dec_num n' 0 r' (by omega) (by simpa using hn') (.inr rfl)
  rw [h, h2] at h1
  simp only [Option.some.injEq, Prod.mk.injEq] at h1
  obtain ⟨rfl, _⟩ := h1
  exact ⟨rfl, List.append_cancel_left h⟩

/-! The sum. -/
def sumStep (n c : Int) : Int := (Go.bits .xor .u32 n (c % 4294967296) * 16777619) % 4294967296
def sumL (l : List Int) : Int := l.foldl sumStep 2166136261
def four (n : Int) : List Int := [n % 256, (n / 256) % 256, (n / 65536) % 256, (n / 16777216) % 256]
theorem four_len (n : Int) : (four n).length = 4 := rfl
theorem four_inj (a b : Int) (ha : 0 ≤ a ∧ a < 4294967296) (hb : 0 ≤ b ∧ b < 4294967296) (h : four a = four b) : a = b := by
  simp only [four, List.cons.injEq, and_true] at h
  omega
theorem sumStep_bd (n c : Int) : 0 ≤ sumStep n c ∧ sumStep n c < 4294967296 := by unfold sumStep; omega
theorem sumL_bd' (l : List Int) : ∀ n : Int, 0 ≤ n ∧ n < 4294967296 → 0 ≤ l.foldl sumStep n ∧ l.foldl sumStep n < 4294967296 := by
  induction l with
  | nil => intro n h; exact h
  | cons c l ih => intro n h; exact ih _ (sumStep_bd n c)
theorem sumL_bd (l : List Int) : 0 ≤ sumL l ∧ sumL l < 4294967296 := sumL_bd' l _ (by decide)
theorem xor_u32 (a b : Nat) (ha : a < 4294967296) (hb : b < 4294967296) : Go.bits .xor .u32 (a : Int) (b : Int) = ((a ^^^ b : Nat) : Int) := by
  have ha' : a % 2 ^ IntKind.u32.bits = a := Nat.mod_eq_of_lt ha
  have hb' : b % 2 ^ IntKind.u32.bits = b := Nat.mod_eq_of_lt hb
  simp only [Go.bits, BitVec.ofInt_natCast, BitVec.toNat_xor, BitVec.toNat_ofNat, ha', hb']
  rw [IntKind.wrap_u32]
  have : a ^^^ b < 2 ^ 32 := Nat.xor_lt_two_pow ha hb
  omega
theorem sumStep_nat (a c : Nat) (ha : a < 4294967296) (hc : c < 256) : sumStep (a : Int) (c : Int) = (((a ^^^ c) * 16777619 % 4294967296 : Nat) : Int) := by
  unfold sumStep
  rw [show (c : Int) % 4294967296 = (c : Int) by omega, xor_u32 a c ha (by omega)]
  omega
/-- Times an odd number is one to one. -/
theorem times_inj (a b : Nat) (ha : a < 4294967296) (hb : b < 4294967296) (h : a * 16777619 % 4294967296 = b * 16777619 % 4294967296) : a = b := by
  have e : ∀ x : Nat, x < 4294967296 → (x * 16777619 % 4294967296) * 899433627 % 4294967296 = x := fun x hx => by
    rw [Nat.mod_mul_mod, Nat.mul_assoc, show 16777619 * 899433627 = 4294967296 * 3513497 + 1 from rfl, Nat.mul_add, Nat.mul_one]
    rw [show x * (4294967296 * 3513497) = 4294967296 * (x * 3513497) by rw [← Nat.mul_assoc, ← Nat.mul_assoc, Nat.mul_comm x]]
    rw [Nat.mul_add_mod]
    exact Nat.mod_eq_of_lt hx
  rw [← e a ha, ← e b hb, h]
theorem xor_inj (a b c : Nat) (h : a ^^^ c = b ^^^ c) : a = b := by
  have := congrArg (· ^^^ c) h
  simpa [Nat.xor_assoc] using this
theorem xor_inj2 (a b c : Nat) (h : c ^^^ a = c ^^^ b) : a = b := by
  rw [Nat.xor_comm c a, Nat.xor_comm c b] at h; exact xor_inj a b c h
theorem xor_lt32 (a b : Nat) (ha : a < 4294967296) (hb : b < 4294967296) : a ^^^ b < 4294967296 := Nat.xor_lt_two_pow (n := 32) ha hb
theorem step_state (n n' c : Int) (hn : 0 ≤ n ∧ n < 4294967296) (hn' : 0 ≤ n' ∧ n' < 4294967296) (hc : 0 ≤ c ∧ c ≤ 255) (h : sumStep n c = sumStep n' c) : n = n' := by
  obtain ⟨a, rfl⟩ := Int.eq_ofNat_of_zero_le hn.1
  obtain ⟨b, rfl⟩ := Int.eq_ofNat_of_zero_le hn'.1
  obtain ⟨d, rfl⟩ := Int.eq_ofNat_of_zero_le hc.1
  have ha : a < 4294967296 := by omega
  have hb : b < 4294967296 := by omega
  have hd : d < 4294967296 := by omega
  rw [sumStep_nat a d ha (by omega), sumStep_nat b d hb (by omega)] at h
  rw [xor_inj _ _ _ (times_inj _ _ (xor_lt32 a d ha hd) (xor_lt32 b d hb hd) (Int.ofNat_inj.mp h))]
theorem step_byte (n c c' : Int) (hn : 0 ≤ n ∧ n < 4294967296) (hc : 0 ≤ c ∧ c ≤ 255) (hc' : 0 ≤ c' ∧ c' ≤ 255) (h : sumStep n c = sumStep n c') : c = c' := by
  obtain ⟨a, rfl⟩ := Int.eq_ofNat_of_zero_le hn.1
  obtain ⟨b, rfl⟩ := Int.eq_ofNat_of_zero_le hc'.1
  obtain ⟨d, rfl⟩ := Int.eq_ofNat_of_zero_le hc.1
  have ha : a < 4294967296 := by omega
  have hb : b < 4294967296 := by omega
  have hd : d < 4294967296 := by omega
  rw [sumStep_nat a d ha (by omega), sumStep_nat a b ha (by omega)] at h
  rw [xor_inj2 _ _ _ (times_inj _ _ (xor_lt32 a d ha hd) (xor_lt32 a b ha hb) (Int.ofNat_inj.mp h))]
theorem fold_state (l : List Int) (hl : ∀ x ∈ l, 0 ≤ x ∧ x ≤ 255) : ∀ n n' : Int, 0 ≤ n ∧ n < 4294967296 → 0 ≤ n' ∧ n' < 4294967296 → l.foldl sumStep n = l.foldl sumStep n' → n = n' := by
  induction l with
  | nil => intro n n' _ _ h; exact h
  | cons c l ih =>
    intro n n' hn hn' h
    exact step_state n n' c hn hn' (hl c (by simp)) (ih (fun x hx => hl x (by simp [hx])) _ _ (sumStep_bd n c) (sumStep_bd n' c) h)
/-- Bytes in which one is another one have another sum. -/
theorem sum_turned (l : List Int) (hl : ∀ x ∈ l, 0 ≤ x ∧ x ≤ 255) (k : Nat) (hk : k < l.length) (c : Int) (hc : 0 ≤ c ∧ c ≤ 255) (hs : sumL (l.set k c) = sumL l) : l.set k c = l := by
  have e : l = l.take k ++ l[k] :: l.drop (k + 1) := by rw [← List.drop_eq_getElem_cons hk, List.take_append_drop]
  have e2 : l.set k c = l.take k ++ c :: l.drop (k + 1) := by rw [List.set_eq_take_append_cons_drop, if_pos hk]
  have hb := sumL_bd' (l.take k) 2166136261 (by decide)
  unfold sumL at hs
  rw [e2] at hs
  conv at hs => rhs; rw [e]
  rw [List.foldl_append, List.foldl_append, List.foldl_cons, List.foldl_cons] at hs
  have h1 := fold_state (l.drop (k + 1)) (fun x hx => hl x (List.mem_of_mem_drop hx)) _ _ (sumStep_bd _ _) (sumStep_bd _ _) hs
  have h2 := step_byte _ _ _ hb hc (hl _ (List.getElem_mem hk)) h1
  rw [e2, h2]
  exact e.symm

/-! A machine's bytes. -/
def encA (a : S59) : List Int := a.f0 :: a.f1 :: num a.f2.toNat
def encS (s : S57) : List Int := num s.f0.toNat ++ (num s.f1.length ++ s.f1.flatMap encA)
def body (m : List S57) : List Int := 68 :: 70 :: 65 :: 49 :: (num m.length ++ m.flatMap encS)
def putL (m : List S57) : List Int := body m ++ four (sumL (body m))
/-- An arc that may stand in bytes. -/
def OkA (a : S59) : Prop := (0 ≤ a.f0 ∧ a.f0 ≤ 255) ∧ (0 ≤ a.f1 ∧ a.f1 ≤ 255) ∧ 0 ≤ a.f2 ∧ a.f2 < 18446744073709551616
def OkS (s : S57) : Prop := (0 ≤ s.f0 ∧ s.f0 < 18446744073709551616) ∧ s.f1.length < 18446744073709551616 ∧ ∀ a ∈ s.f1, OkA a
def OkM (m : List S57) : Prop := m.length < 18446744073709551616 ∧ ∀ s ∈ m, OkS s
theorem encA_bd (a : S59) (h : OkA a) : ∀ x ∈ encA a, 0 ≤ x ∧ x ≤ 255 := by
  intro x hx
  unfold encA at hx
  rcases List.mem_cons.1 hx with rfl | hx
  · exact h.1
  · rcases List.mem_cons.1 hx with rfl | hx
    · exact h.2.1
    · exact num_bd _ x hx
theorem encS_bd (s : S57) (h : OkS s) : ∀ x ∈ encS s, 0 ≤ x ∧ x ≤ 255 := by
  intro x hx
  unfold encS at hx
  rcases List.mem_append.1 hx with hx | hx
  · exact num_bd _ x hx
  · rcases List.mem_append.1 hx with hx | hx
    · exact num_bd _ x hx
    · obtain ⟨a, ha, hx⟩ := List.mem_flatMap.1 hx
      exact encA_bd a (h.2.2 a ha) x hx
theorem body_bd (m : List S57) (h : OkM m) : ∀ x ∈ body m, 0 ≤ x ∧ x ≤ 255 := by
  intro x hx
  unfold body at hx
  simp only [List.mem_cons, List.mem_append] at hx
  rcases hx with rfl | rfl | rfl | rfl | hx | hx
  · decide
  · decide
  · decide
  · decide
  · exact num_bd _ x hx
  · obtain ⟨s, hs, hx⟩ := List.mem_flatMap.1 hx
    exact encS_bd s (h.2 s hs) x hx
theorem four_bd (n : Int) : ∀ x ∈ four n, 0 ≤ x ∧ x ≤ 255 := by
  intro x hx
  simp only [four, List.mem_cons, List.not_mem_nil, or_false] at hx
  rcases hx with rfl | rfl | rfl | rfl <;> omega
theorem putL_bd (m : List S57) (h : OkM m) : ∀ x ∈ putL m, 0 ≤ x ∧ x ≤ 255 := by
  intro x hx
  rcases List.mem_append.1 hx with hx | hx
  · exact body_bd m h x hx
  · exact four_bd _ x hx
/-- No row of arcs' bytes begins another one. -/
theorem arcs_prefix : ∀ (l l' : List S59) (r r' : List Int), l.length = l'.length → (∀ a ∈ l, OkA a) → (∀ a ∈ l', OkA a) → l.flatMap encA ++ r = l'.flatMap encA ++ r' → l = l' ∧ r = r' := by
  intro l
  induction l with
  | nil =>
    intro l' r r' hl _ _ h
    obtain rfl : l' = [] := List.length_eq_zero_iff.1 hl.symm
    exact ⟨rfl, by simpa using h⟩
  | cons a l ih =>
    intro l' r r' hl ho ho' h
    cases l' with
    | nil => simp at hl
    | cons a' l' =>
      simp only [List.flatMap_cons, encA, List.cons_append, List.append_assoc, List.cons.injEq] at h
      obtain ⟨h1, h2, h3⟩ := h
      have hoa := ho a (by simp)
      have hoa' := ho' a' (by simp)
      obtain ⟨h4, h5⟩ := num_inj _ _ (by have := hoa.2.2; omega) (by have := hoa'.2.2; omega) _ _ h3
      obtain ⟨rfl, rfl⟩ := ih l' r r' (by simpa using hl) (fun x hx => ho x (by simp [hx])) (fun x hx => ho' x (by simp [hx])) h5
      have h6 : a.f2 = a'.f2 := by have := hoa.2.2; have := hoa'.2.2; omega
      obtain ⟨x0, x1, x2⟩ := a
      obtain ⟨y0, y1, y2⟩ := a'
      simp only at h1 h2 h6
      subst h1 h2 h6
      exact ⟨rfl, rfl⟩
theorem state_prefix (s s' : S57) (r r' : List Int) (ho : OkS s) (ho' : OkS s') (h : encS s ++ r = encS s' ++ r') : s = s' ∧ r = r' := by
  unfold encS at h
  simp only [List.append_assoc] at h
  obtain ⟨h1, h2⟩ := num_inj _ _ (by have := ho.1; omega) (by have := ho'.1; omega) _ _ h
  obtain ⟨h3, h4⟩ := num_inj _ _ ho.2.1 ho'.2.1 _ _ h2
  obtain ⟨h5, h6⟩ := arcs_prefix _ _ _ _ h3 ho.2.2 ho'.2.2 h4
  have h7 : s.f0 = s'.f0 := by have := ho.1; have := ho'.1; omega
  obtain ⟨x0, x1⟩ := s
  obtain ⟨y0, y1⟩ := s'
  simp only at h5 h7
  subst h5 h7
  exact ⟨rfl, h6⟩
theorem states_prefix : ∀ (l l' : List S57) (r r' : List Int), l.length = l'.length → (∀ a ∈ l, OkS a) → (∀ a ∈ l', OkS a) → l.flatMap encS ++ r = l'.flatMap encS ++ r' → l = l' ∧ r = r' := by
  intro l
  induction l with
  | nil =>
    intro l' r r' hl _ _ h
    obtain rfl : l' = [] := List.length_eq_zero_iff.1 hl.symm
    exact ⟨rfl, by simpa using h⟩
  | cons a l ih =>
    intro l' r r' hl ho ho' h
    cases l' with
    | nil => simp at hl
    | cons a' l' =>
      simp only [List.flatMap_cons, List.append_assoc] at h
      obtain ⟨rfl, h5⟩ := state_prefix _ _ _ _ (ho a (by simp)) (ho' a' (by simp)) h
      obtain ⟨rfl, rfl⟩ := ih l' r r' (by simpa using hl) (fun x hx => ho x (by simp [hx])) (fun x hx => ho' x (by simp [hx])) h5
      exact ⟨rfl, rfl⟩
theorem body_prefix (m m' : List S57) (r r' : List Int) (ho : OkM m) (ho' : OkM m') (h : body m ++ r = body m' ++ r') : m = m' ∧ r = r' := by
  unfold body at h
  simp only [List.cons_append, List.append_assoc, List.cons.injEq, true_and] at h
  obtain ⟨h1, h2⟩ := num_inj _ _ ho.1 ho'.1 _ _ h
  exact states_prefix m m' _ _ h1 ho.2 ho'.2 h2
/-- Of no machine's bytes is a part ahead of their end a machine's. -/
theorem putL_cut (m m' : List S57) (ho : OkM m) (ho' : OkM m') (k : Nat) (hk : k < (putL m).length) (h : (putL m).take k = putL m') : False := by
  have h1 : putL m' ++ (putL m).drop k = putL m := by rw [← h, List.take_append_drop]
  unfold putL at h1
  rw [List.append_assoc] at h1
  obtain ⟨rfl, h2⟩ := body_prefix _ _ _ _ ho' ho h1
  have h3 := congrArg List.length h2
  rw [List.length_append] at h3
  have h4 : (List.drop k (body m' ++ four (sumL (body m')))).length = (putL m').length - k := by rw [List.length_drop]; rfl
  omega
theorem getD_set_at (l : List Int) (k : Nat) (c : Int) (hk : k < l.length) : (l.set k c).getD k 0 = c := by
  rw [List.getD_eq_getElem?_getD, List.getElem?_set_self hk]; rfl
/-- No machine's bytes in which one is another one are a machine's. -/
theorem putL_turned (m m' : List S57) (ho : OkM m) (ho' : OkM m') (k : Nat) (hk : k < (putL m).length) (c : Int) (hc : 0 ≤ c ∧ c ≤ 255) (hne : c ≠ (putL m).getD k 0) (h : (putL m).set k c = putL m') : False := by
  have hl : (putL m').length = (putL m).length := by rw [← h, List.length_set]
  have hb : (body m').length = (body m).length := by
    unfold putL at hl; simp only [List.length_append, four_len] at hl; omega
  have hlen : (putL m).length = (body m).length + 4 := by unfold putL; rw [List.length_append, four_len]
  have e : (putL m).getD k 0 = if k < (body m).length then (body m).getD k 0 else (four (sumL (body m))).getD (k - (body m).length) 0 := by
    unfold putL
    simp only [List.getD_eq_getElem?_getD]
    split
    · rename_i h1; rw [List.getElem?_append_left h1]
    · rename_i h1; rw [List.getElem?_append_right (by omega)]
  rcases Nat.lt_or_ge k (body m).length with h1 | h1
  · rw [if_pos h1] at e
    have h2 : (body m).set k c ++ four (sumL (body m)) = body m' ++ four (sumL (body m')) := by
      rw [← List.set_append_left _ _ h1]; exact h
    obtain ⟨h3, h4⟩ := List.append_inj h2 (by rw [List.length_set, hb])
    have h5 := four_inj _ _ (sumL_bd _) (sumL_bd _) h4
    rw [← h3] at h5
    have h6 := sum_turned (body m) (body_bd m ho) k h1 c hc h5.symm
    have h7 := getD_set_at (body m) k c h1
    rw [h6, ← e] at h7
    exact hne h7.symm
  · rw [if_neg (by omega)] at e
    have h2 : body m ++ (four (sumL (body m))).set (k - (body m).length) c = body m' ++ four (sumL (body m')) := by
      rw [← List.set_append_right _ _ h1]; exact h
    obtain ⟨h3, h4⟩ := List.append_inj h2 hb.symm
    rw [← h3] at h4
    have h5 : k - (body m).length < (four (sumL (body m))).length := by rw [four_len]; omega
    have h7 := getD_set_at (four (sumL (body m))) (k - (body m).length) c h5
    rw [h4, ← e] at h7
    exact hne h7.symm
end Go.Proofs.Ytokdggmobhnnpaa.Enc
