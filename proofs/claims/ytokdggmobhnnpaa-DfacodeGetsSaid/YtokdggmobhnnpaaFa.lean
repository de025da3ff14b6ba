/- What the printed functions of dfacode come to, as plain functions. Own text: no walk in it. -/
import Derived.Test.YtokdggmobhnnpaaPar
import Derived.Test.YtokdggmobhnnpaaP2
import Derived.Test.YtokdggmobhnnpaaP3
import Derived.Test.YtokdggmobhnnpaaP4
namespace Go.Proofs.Ytokdggmobhnnpaa.Enc
open Go.RowKit Go.Proofs.Ytokdggmobhnnpaa.P Go.Proofs.YtokdggmobhnnpaaW.PrintWords Go.Proofs.YtokdggmobhnnpaaW.PrintLast Go.Proofs.YtokdggmobhnnpaaW.PrintMore
set_option linter.unusedVariables false

theorem w1 {i : Int} (h0 : 0 ≤ i) (h : i < 9223372036854775807) : wrap64 (i + 1) = i + 1 := by unfold wrap64; omega
theorem w1m {i : Int} (h0 : 0 < i) (h : i < 9223372036854775807) : wrap64 (i - 1) = i - 1 := by unfold wrap64; omega
theorem or128' : ∀ y : Fin 256, Go.bits .or .u8 ((y.val : Nat) : Int) 128 = ((y.val % 128 + 128 : Nat) : Int) := by decide +kernel
theorem or128 (n : Nat) : Go.bits .or .u8 ((n : Int) % 256) 128 = ((n % 128 + 128 : Nat) : Int) := by
  have h := or128' ⟨n % 256, by omega⟩
  simp only at h
  rw [show (n : Int) % 256 = ((n % 256 : Nat) : Int) by omega, h]
  congr 1; omega
theorem number_l (n : Nat) : ∀ (k : Nat) (acc : List Int), (num n).length < k → acc.length + (num n).length < 140737488355328 → dfacode_Number.l0 k (n : Int) acc = some (acc ++ num n) := by
  induction n using Nat.strongRecOn with
  | _ n ih =>
    intro k acc hk ha
    obtain ⟨k, rfl⟩ : ∃ m, k = m + 1 := ⟨k - 1, by omega⟩
    simp only [dfacode_Number.l0]
    by_cases h : n < 128
    · have e := num_lt n h
      rw [e] at ha ⊢
      simp only [List.length_singleton] at ha
      rw [if_neg (by omega), if_pos (by omega)]
      congr 3; omega
    · have e := num_ge n h
      rw [e, List.length_cons] at ha hk
      rw [if_pos (by omega), if_pos (by omega), or128, show ((n : Int) / 128) = ((n / 128 : Nat) : Int) by omega, ih (n / 128) (by omega) k _ (by omega) (by rw [List.length_append, List.length_singleton]; omega), e]
      simp
theorem number_f (n : Int) (h0 : 0 ≤ n) (h1 : n < 18446744073709551616) (k : Nat) (hk : 11 ≤ k) : dfacode_Number.f k n = some (num n.toNat) := by
  obtain ⟨m, rfl⟩ := Int.eq_ofNat_of_zero_le h0
  have := num_len10 m (by omega)
  unfold dfacode_Number.f
  rw [number_l m k [] (by omega) (by simp only [List.length_nil]; omega), List.nil_append]; rfl

theorem sum_l (l : List Int) (hl : l.length ≤ 9223372036854775807) (d : Nat) : ∀ (k i : Nat) (x : Int), i + d = l.length → d < k → dfacode_Sum.l0 k x l (l.length : Int) (i : Int) = some ((l.drop i).foldl sumStep x) := by
  induction d with
  | zero =>
    intro k i x hi hk
    obtain ⟨k, rfl⟩ : ∃ m, k = m + 1 := ⟨k - 1, by omega⟩
    simp only [dfacode_Sum.l0]
    rw [if_neg (by omega), List.drop_of_length_le (by omega)]; rfl
  | succ d ih =>
    intro k i x hi hk
    obtain ⟨k, rfl⟩ : ∃ m, k = m + 1 := ⟨k - 1, by omega⟩
    have hlt : i < l.length := by omega
    have e1 : wrap64 ((i : Int) + 1) = ((i + 1 : Nat) : Int) := by rw [w1 (by omega) (by omega)]; omega
    have e2 : rd l (i : Int) = l[i] := by simp [rd, hlt]
    simp only [dfacode_Sum.l0]
    rw [if_pos (by omega), if_pos (by omega), if_pos (by omega), e1, e2, ih k (i + 1) _ (by omega) (by omega), List.drop_eq_getElem_cons hlt, List.foldl_cons]
    rfl
theorem sum_f (l : List Int) (hl : l.length ≤ 9223372036854775807) (k : Nat) (hk : l.length < k) : dfacode_Sum.f k l = some (sumL l) := by
  unfold dfacode_Sum.f sumL
  have := sum_l l hl l.length k 0 2166136261 (by omega) hk
  simpa using this

/-! Value. -/
def valL (b : List Int) : Int × Int := match dec 0 b with
  | some (n, k) => ((n : Int), (k : Int))
  | none => (0, 0)
theorem andNot' : ∀ y : Fin 256, Go.bits .andNot .u8 ((y.val : Nat) : Int) 128 = ((y.val % 128 : Nat) : Int) := by decide +kernel
theorem andNot128 (c : Int) (h : 0 ≤ c ∧ c ≤ 255) : IntKind.u64.wrap (Go.bits .andNot .u8 c 128) = c % 128 := by
  obtain ⟨n, rfl⟩ := Int.eq_ofNat_of_zero_le h.1
  have := andNot' ⟨n, by omega⟩
  simp only at this
  rw [this, IntKind.wrap_u64]
  omega
theorem or_shl (x part i : Nat) (hx : x < 2 ^ (7 * i)) (hi : i ≤ 9) (hp : part < 128) (h9 : i = 9 → part ≤ 1) : Go.bits .or .u64 (x : Int) (shl .u64 (part : Int) (wrap64 (7 * (i : Int)))) = ((x + part * 2 ^ (7 * i) : Nat) : Int) := by
  have hw : wrap64 (7 * (i : Int)) = ((7 * i : Nat) : Int) := by unfold wrap64; omega
  have hb : part * 2 ^ (7 * i) < 2 ^ 64 := by
    rcases Nat.lt_or_ge i 9 with h | h
    · have : 2 ^ (7 * i) ≤ 2 ^ 56 := Nat.pow_le_pow_right (by decide) (by omega)
      have h2 : part * 2 ^ (7 * i) ≤ 127 * 2 ^ 56 := Nat.mul_le_mul (by omega) this
      exact Nat.lt_of_le_of_lt h2 (by decide)
    · obtain rfl : i = 9 := by omega
      have := h9 rfl
      have h2 : part * 2 ^ (7 * 9) ≤ 1 * 2 ^ (7 * 9) := Nat.mul_le_mul this (Nat.le_refl _)
      exact Nat.lt_of_le_of_lt h2 (by decide)
  have hx64 : x < 2 ^ 64 := Nat.lt_of_lt_of_le hx (Nat.pow_le_pow_right (by decide) (by omega))
  have hs : shl .u64 (part : Int) (wrap64 (7 * (i : Int))) = ((part * 2 ^ (7 * i) : Nat) : Int) := by
    unfold shl
    rw [hw, Int.toNat_natCast, show min (7 * i) IntKind.u64.bits = 7 * i from Nat.min_eq_left (by show 7 * i ≤ 64; omega), IntKind.wrap_u64]
    have e : (part : Int) * 2 ^ (7 * i) = ((part * 2 ^ (7 * i) : Nat) : Int) := by simp
    rw [e]
    have : (2 : Nat) ^ 64 = 18446744073709551616 := rfl
    omega
  rw [hs, (bits_nat .u64 64 (by decide) (fun n h0 h1 => by rw [IntKind.wrap_u64]; have : (2 : Int) ^ 64 = 18446744073709551616 := rfl; omega) x _ hx64 hb).2]
  congr 1
  rw [Nat.or_comm, Nat.mul_comm part, ← Nat.two_pow_add_eq_or_of_lt hx part, Nat.add_comm]
theorem len7_le1 (p : Int) (h : 0 ≤ p ∧ p ≤ 127) : len7 p ≤ 1 ↔ p ≤ 1 := by
  unfold len7; repeat' split
  all_goals omega
theorem dec_ten (c : Int) (r : List Int) (i : Nat) (h : 10 ≤ i) : dec i (c :: r) = none := by simp only [dec]; rw [if_pos h]
theorem dec_lt (c : Int) (r : List Int) (i : Nat) (h : i ≤ 9) (h1 : c < 128) : dec i (c :: r) = if c = 0 ∧ 0 < i then none else if i = 9 ∧ 1 < c then none else some (c.toNat, 1) := by
  simp only [dec]; rw [if_neg (by omega), if_pos h1]
theorem dec_ge (c : Int) (r : List Int) (i : Nat) (h : i ≤ 9) (h1 : ¬ c < 128) : dec i (c :: r) = match dec (i + 1) r with | some (m, k) => some (c.toNat - 128 + 128 * m, k + 1) | none => none := by
  simp only [dec]; rw [if_neg (by omega), if_neg h1]
  cases dec (i + 1) r with
  | none => rfl
  | some q => obtain ⟨m, k⟩ := q; rfl
theorem dec_10 (r : List Int) : dec 10 r = none := by
  cases r with
  | nil => rfl
  | cons a r => exact dec_ten a r 10 (Nat.le_refl _)
theorem w7 (i : Nat) (h : i ≤ 9) : wrap64 (7 * (i : Int)) = 7 * (i : Int) := by unfold wrap64; omega
theorem w7n (i : Nat) (h : i ≤ 9) : 0 ≤ wrap64 (7 * (i : Int)) := by rw [w7 i h]; omega
theorem value_l (l : List Int) (hb : ∀ x ∈ l, 0 ≤ x ∧ x ≤ 255) (hl : l.length ≤ 9223372036854775807) (d : Nat) : ∀ (k i x : Nat), i + d = l.length → i ≤ 10 → x < 2 ^ (7 * i) → 3 * d < k →
    dfacode_Value.l0 k (x : Int) l (l.length : Int) (i : Int) = some (match dec i (l.drop i) with
      | some (m, c) => (((x + m * 2 ^ (7 * i) : Nat) : Int), ((i + c : Nat) : Int))
      | none => (0, 0)) := by
  induction d with
  | zero =>
    intro k i x hi h10 hx hk
    obtain ⟨k, rfl⟩ : ∃ m, k = m + 1 := ⟨k - 1, by omega⟩
    simp only [dfacode_Value.l0]
    rw [if_neg (by omega), List.drop_of_length_le (by omega)]; rfl
  | succ d ih =>
    intro k i x hi h10 hx hk
    obtain ⟨k, rfl⟩ : ∃ m, k = m + 3 := ⟨k - 3, by omega⟩
    have hlt : i < l.length := by omega
    have e1 : wrap64 ((i : Int) + 1) = ((i + 1 : Nat) : Int) := by rw [w1 (by omega) (by omega)]; omega
    have e2 : rd l (i : Int) = l[i] := by simp [rd, hlt]
    have hc := hb l[i] (List.getElem_mem hlt)
    have hI := ih k (i + 1)
    rw [List.drop_eq_getElem_cons hlt]
    simp only [dfacode_Value.l0]
    rw [if_pos (by omega), if_pos (by omega), if_pos (by omega), e2, andNot128 _ hc]
    generalize l[i] = c at *
    by_cases hi10 : (i : Int) = 10
    · rw [if_pos hi10, dec_ten _ _ _ (by omega)]
      simp only [dfacode_Value.j1]
      rw [if_pos trivial]
    · rw [if_neg hi10]
      have hi9 : i ≤ 9 := by omega
      have hlen : bits_Len64.f (c % 128) = some (len7 (c % 128)) := by unfold bits_Len64.f; rw [if_pos (by omega)]
      rw [hlen]
      simp only [Option.bind_some]
      have h7 := len7_bd (c % 128)
      have hl1 := len7_le1 (c % 128) (by omega)
      have hwl : wrap64 (len7 (c % 128) + wrap64 (7 * (i : Int))) = len7 (c % 128) + 7 * (i : Int) := by
        rw [w7 i hi9]; unfold wrap64; omega
      rw [hwl]
      by_cases hov : len7 (c % 128) + 7 * (i : Int) > 64
      · rw [if_pos hov]
        obtain rfl : i = 9 := by omega
        have hp : ¬ c % 128 ≤ 1 := by omega
        have hne : (c % 128 != 0) = true := by simp; omega
        simp only [dfacode_Value.j1, hne]
        rw [if_pos trivial]
        by_cases h128 : c < 128
        · rw [dec_lt _ _ _ hi9 h128, if_neg (by omega), if_pos (And.intro (Eq.refl 9) (by omega))]
        · rw [dec_ge _ _ _ hi9 h128, dec_10]
      · rw [if_neg hov]
        have h9 : i = 9 → (c % 128).toNat ≤ 1 := by rintro rfl; omega
        have hor := or_shl x (c % 128).toNat i hx hi9 (by omega) h9
        rw [show (((c % 128).toNat : Nat) : Int) = c % 128 by omega] at hor
        have hw7 := w7n i hi9
        clear hwl hlen
        simp only [dfacode_Value.j1]
        rw [if_neg (by simp)]
        by_cases h128 : c < 128
        · rw [if_pos h128, dec_lt _ _ _ hi9 h128]
          have hct : (c % 128).toNat = c.toNat := by omega
          have h91 : ¬ (i = 9 ∧ 1 < c) := fun h => by have := h9 h.1; omega
          by_cases hc0 : c = 0
          · rw [if_pos hc0]
            simp only [dfacode_Value.j2]
            by_cases hi0 : (i : Int) > 0
            · rw [if_pos (decide_eq_true hi0), if_pos ⟨hc0, by omega⟩]
            · rw [if_neg (by simpa using hi0), if_pos hw7, if_pos h128, hor, e1, hct, if_neg (fun h => hi0 (Int.ofNat_lt.2 h.2)), if_neg h91]
          · rw [if_neg hc0, if_neg (fun h => hc0 h.1), if_neg h91]
            simp only [dfacode_Value.j2]
            rw [if_neg (by simp), if_pos hw7, if_pos h128, hor, e1, hct]
        · rw [if_neg h128, dec_ge _ _ _ hi9 h128]
          simp only [dfacode_Value.j2]
          rw [if_neg (by simp), if_pos hw7, if_neg h128, hor, e1]
          have hpow : 2 ^ (7 * (i + 1)) = 2 ^ (7 * i) * 128 := by rw [show 7 * (i + 1) = 7 * i + 7 by omega, Nat.pow_add]
          have hx' : x + (c % 128).toNat * 2 ^ (7 * i) < 2 ^ (7 * (i + 1)) := by
            rw [hpow]
            have h1 : (c % 128).toNat * 2 ^ (7 * i) ≤ 127 * 2 ^ (7 * i) := Nat.mul_le_mul (by omega) (Nat.le_refl _)
            generalize 2 ^ (7 * i) = y at *
            omega
          rw [hI _ (by omega) (by omega) hx' (by omega)]
          cases hd : dec (i + 1) (l.drop (i + 1)) with
          | none => rfl
          | some q =>
            obtain ⟨m, kk⟩ := q
            simp only [Option.some.injEq, Prod.mk.injEq]
            refine ⟨?_, by omega⟩
            congr 1
            rw [hpow, show c.toNat - 128 = (c % 128).toNat by omega, Nat.add_mul, Nat.add_assoc]
            congr 2
            rw [Nat.mul_comm m, Nat.mul_comm 128 m, Nat.mul_comm (2 ^ (7 * i)) 128, Nat.mul_comm (m * 128), Nat.mul_comm 128 (2 ^ (7 * i)), Nat.mul_comm m 128, Nat.mul_assoc]
theorem value_f (l : List Int) (hb : ∀ x ∈ l, 0 ≤ x ∧ x ≤ 255) (hl : l.length ≤ 9223372036854775807) (k : Nat) (hk : 3 * l.length < k) : dfacode_Value.f k l = some (valL l) := by
  unfold dfacode_Value.f valL
  have := value_l l hb hl l.length k 0 0 (by omega) (by omega) (by simp) hk
  simp only [List.drop_zero] at this
  rw [show ((0 : Nat) : Int) = 0 from rfl] at this
  rw [this]
  cases dec 0 l with
  | none => rfl
  | some q => simp

/-! Check. -/
/-- The arcs' bytes are bytes; no row is too long. -/
def ByM (m : List S57) : Prop := ∀ s ∈ m, s.f1.length ≤ 9223372036854775807 ∧ ∀ a ∈ s.f1, (0 ≤ a.f0 ∧ a.f0 ≤ 255) ∧ (0 ≤ a.f1 ∧ a.f1 ≤ 255)
theorem rd59 (l : List S59) (i : Nat) (h : i < l.length) : rd_T59 l (i : Int) = l[i] := by simp [rd_T59, h]
theorem rd57 (l : List S57) (i : Nat) (h : i < l.length) : rd_T57 l (i : Int) = l[i] := by simp [rd_T57, h]
def pvAt (l : List S59) (j : Nat) : Option S59 := if j = 0 then none else l[j - 1]?
theorem pvAt_succ (l : List S59) (j : Nat) (h : j < l.length) : pvAt l (j + 1) = some l[j] := by
  unfold pvAt; rw [if_neg (by omega), Nat.add_sub_cancel, List.getElem?_eq_getElem h]
theorem fits_f (p a : S59) (hp : 0 ≤ p.f1 ∧ p.f1 ≤ 255) (ha : 0 ≤ a.f0 ∧ a.f0 ≤ 255) : dfa_fits.f p.f0 p.f1 p.f2 a.f0 a.f1 a.f2 = some (fitsB p a) := by
  have e1 : wrap64 a.f0 = a.f0 := by unfold wrap64; omega
  have e2 : wrap64 (wrap64 p.f1 + 1) = p.f1 + 1 := by
    have : wrap64 p.f1 = p.f1 := by unfold wrap64; omega
    rw [this]; unfold wrap64; omega
  unfold dfa_fits.f fitsB
  rw [e1, e2]
  by_cases h1 : a.f0 > p.f1
  · rw [if_pos h1]
    by_cases h2 : a.f0 = p.f1 + 1
    · rw [if_pos h2]
      congr 1
      have h4 : p.f1 < p.f1 + 1 := by omega
      by_cases h3 : a.f2 = p.f2
      · simp [h2, h3]
      · simp [h2, h3, h4]
    · rw [if_neg h2]; simp [h2]; omega
  · rw [if_neg h1]; simp; omega
theorem arcsOk_cons (n : Nat) (pv : Option S59) (a : S59) (l : List S59) : arcsOk n pv (a :: l) = (decide (a.f0 ≤ a.f1) && decide (0 ≤ a.f2) && decide (a.f2 < (n : Int)) && (match pv with | none => true | some p => fitsB p a) && arcsOk n (some a) l) := rfl
theorem check_l1 (m : List S57) (hm : m.length ≤ 4096) (i : Int) (l : List S59) (f0 : Int) (hl : l.length ≤ 9223372036854775807) (hB : ∀ a ∈ l, (0 ≤ a.f0 ∧ a.f0 ≤ 255) ∧ (0 ≤ a.f1 ∧ a.f1 ≤ 255)) (N : Nat) (R : Option Int)
    (hnext : ∀ k, N ≤ k → dfa_Check.l0 k m m (m.length : Int) (wrap64 (i + 1)) = R) (d : Nat) : ∀ k j : Nat, j + d = l.length → N + d < k →
    dfa_Check.l1 k m m (m.length : Int) i l (l.length : Int) (j : Int) f0 l = if arcsOk m.length (pvAt l j) (l.drop j) = true then R else some 110 := by
  induction d with
  | zero =>
    intro k j hj hk
    obtain ⟨k, rfl⟩ : ∃ m, k = m + 1 := ⟨k - 1, by omega⟩
    simp only [dfa_Check.l1]
    rw [if_neg (by omega), List.drop_of_length_le (by omega), hnext k (by omega), if_pos (by rfl)]
  | succ d ih =>
    intro k j hj hk
    obtain ⟨k, rfl⟩ : ∃ m, k = m + 1 := ⟨k - 1, by omega⟩
    have hlt : j < l.length := by omega
    have e1 : wrap64 ((j : Int) + 1) = ((j + 1 : Nat) : Int) := by rw [w1 (by omega) (by omega)]; omega
    have hI := ih k (j + 1) (by omega) (by omega)
    rw [pvAt_succ l j hlt] at hI
    have hba := hB l[j] (List.getElem_mem hlt)
    simp only [dfa_Check.l1]
    rw [if_pos (by omega), if_pos (by omega), if_pos (by omega), rd59 l j hlt, List.drop_eq_getElem_cons hlt, arcsOk_cons]
    by_cases h1 : l[j].f0 > l[j].f1
    · rw [if_pos h1, if_neg]
      simp; intro; omega
    rw [if_neg h1]
    by_cases h2 : l[j].f2 < 0
    · rw [if_pos h2, if_neg]
      simp; intro _ _; omega
    rw [if_neg h2]
    by_cases h3 : l[j].f2 ≥ (m.length : Int)
    · rw [if_pos h3, if_neg]
      simp; intro _ _ _; omega
    rw [if_neg h3]
    have hA : (decide (l[j].f0 ≤ l[j].f1) && decide (0 ≤ l[j].f2) && decide (l[j].f2 < (m.length : Int))) = true := by simp; omega
    rw [hA, Bool.true_and]
    by_cases h4 : (j : Int) > 0
    · have e2 : wrap64 ((j : Int) - 1) = ((j - 1 : Nat) : Int) := by rw [w1m (by omega) (by omega)]; omega
      have hlt2 : j - 1 < l.length := by omega
      have ep : pvAt l j = some l[j - 1] := by unfold pvAt; rw [if_neg (by omega), List.getElem?_eq_getElem hlt2]
      have hbp := hB l[j - 1] (List.getElem_mem hlt2)
      rw [if_pos h4, e2, if_pos (by omega), if_pos (by omega), rd59 l (j - 1) hlt2, fits_f _ _ hbp.2 hba.1, ep, e1, hI]
      simp only [Option.bind_some]
      by_cases hf : fitsB l[j - 1] l[j] = true
      · rw [if_pos hf]; simp only [hf, Bool.true_and]
      · rw [if_neg hf]; simp only [Bool.eq_false_iff.2 hf, Bool.false_and, Bool.false_eq_true, if_false]
    · obtain rfl : j = 0 := by omega
      rw [if_neg h4, e1, hI]
      simp [pvAt]
def csumL (m : List S57) (i : Nat) : Nat := ((m.drop i).map fun s => s.f1.length + 3).sum
theorem check_l0 (m : List S57) (hm : m.length ≤ 4096) (hB : ByM m) (d : Nat) : ∀ k i : Nat, i + d = m.length → csumL m i < k →
    dfa_Check.l0 k m m (m.length : Int) (i : Int) = some (if (m.drop i).all (fun s => arcsOk m.length none s.f1) = true then 0 else 110) := by
  induction d with
  | zero =>
    intro k i hi hk
    obtain ⟨k, rfl⟩ : ∃ m, k = m + 1 := ⟨k - 1, by omega⟩
    simp only [dfa_Check.l0]
    rw [if_neg (by omega), List.drop_of_length_le (by omega)]; rfl
  | succ d ih =>
    intro k i hi hk
    have hlt : i < m.length := by omega
    have e : csumL m i = m[i].f1.length + 3 + csumL m (i + 1) := by unfold csumL; rw [List.drop_eq_getElem_cons hlt, List.map_cons, List.sum_cons]
    obtain ⟨k, rfl⟩ : ∃ m, k = m + 1 := ⟨k - 1, by omega⟩
    have e1 : wrap64 ((i : Int) + 1) = ((i + 1 : Nat) : Int) := by rw [w1 (by omega) (by omega)]; omega
    obtain ⟨hl, hb⟩ := hB _ (List.getElem_mem hlt)
    simp only [dfa_Check.l0]
    rw [if_pos (by omega), if_pos (by omega), if_pos (by omega), rd57 m i hlt]
    have h1 := check_l1 m hm (i : Int) m[i].f1 m[i].f0 hl hb (csumL m (i + 1) + 1) _ (fun k hk => by rw [e1]; exact ih k (i + 1) (by omega) (by omega)) m[i].f1.length k 0 (by omega) (by omega)
    rw [show ((0 : Nat) : Int) = 0 from rfl] at h1
    rw [h1]
    rw [List.drop_zero, List.drop_eq_getElem_cons hlt, List.all_cons]
    simp only [pvAt, if_true]
    cases arcsOk m.length none m[i].f1 with
    | true => simp
    | false => simp
theorem check_f (m : List S57) (hB : ByM m) : ∃ K, ∀ k, K ≤ k → dfa_Check.f k m = some (if goodB m = true then 0 else 110) := by
  by_cases hm : m.length ≤ 4096
  · refine ⟨csumL m 0 + 1, fun k hk => ?_⟩
    unfold dfa_Check.f
    rw [if_neg (by omega)]
    have := check_l0 m hm hB m.length k 0 (by omega) (by omega)
    rw [List.drop_zero] at this
    rw [show (0 : Int) = ((0 : Nat) : Int) from rfl, this]
    simp [goodB, hm]
  · refine ⟨0, fun k hk => ?_⟩
    unfold dfa_Check.f
    rw [if_pos (by omega)]
    simp [goodB, hm]
end Go.Proofs.Ytokdggmobhnnpaa.Enc
