/- What the reference's Number, Value, Sum and Four come to, as plain functions. Own text: no walk in it. -/
import Derived.Test.YtokdggmobhnnpaaFa
import Derived.Test.YtokdggmobhnnpaaP7
import Derived.Lib.Strings
namespace Go.Proofs.Ytokdggmobhnnpaa.Enc
open Go.RowKit Go.Proofs.Ytokdggmobhnnpaa.P Go.Proofs.YtokdggmobhnnpaaW.PrintWords Go.Proofs.YtokdggmobhnnpaaW.PrintLast Go.Proofs.YtokdggmobhnnpaaW.PrintMore
set_option linter.unusedVariables false

abbrev B8 (xs : List Int) : Prop := ∀ x ∈ xs, 0 ≤ x ∧ x ≤ 255

theorem so_size (xs : List Int) : (strOfNums xs).size = xs.length := by simp [strOfNums, ByteArray.size]
theorem so_app (xs ys : List Int) : strOfNums (xs ++ ys) = strOfNums xs ++ strOfNums ys := by
  apply ByteArray.ext
  simp [strOfNums, ByteArray.data_append]
theorem so_extract (xs : List Int) (a b : Nat) : (strOfNums xs).extract a b = strOfNums ((xs.take b).drop a) := by
  apply ByteArray.ext
  simp [strOfNums, ByteArray.data_extract, List.drop_take]
theorem so_drop (xs : List Int) (a : Nat) : (strOfNums xs).extract a xs.length = strOfNums (xs.drop a) := by
  rw [so_extract, List.take_length]
theorem so_bt (xs : List Int) (h : B8 xs) (i : Nat) (hi : i < xs.length) : bt (strOfNums xs) (i : Int) = xs[i] := by
  have hb := h xs[i] (List.getElem_mem hi)
  unfold bt
  rw [Int.toNat_natCast, dif_pos (by rw [so_size]; exact hi)]
  simp only [strOfNums, ByteArray.getElem_eq_getElem_data]
  simp
  omega
theorem so_inj : ∀ xs ys : List Int, B8 xs → B8 ys → strOfNums xs = strOfNums ys → xs = ys := by
  intro xs ys hx hy h
  have hl : xs.length = ys.length := by rw [← so_size xs, ← so_size ys, h]
  refine List.ext_getElem hl (fun i h1 h2 => ?_)
  rw [← so_bt xs hx i h1, ← so_bt ys hy i h2, h]
theorem so_list (xs ys : List Int) (hx : B8 xs) (hy : B8 ys) : ((strOfNums xs).toList = (strOfNums ys).toList) ↔ xs = ys := by
  refine ⟨fun h => so_inj xs ys hx hy ?_, fun h => by rw [h]⟩
  apply ByteArray.ext
  have e : ∀ b : ByteArray, b.toList = b.data.toList := fun b => Go.Lib.toList_data b
  rw [e, e] at h
  exact Array.toList_inj.1 h
theorem rnumber_f (n : Nat) (hn : n < 18446744073709551616) : ∀ k, (num n).length < k → homographref11_Number.f k (n : Int) = some (strOfNums (num n)) := by
  induction n using Nat.strongRecOn with
  | _ n ih =>
    intro k hk
    obtain ⟨k, rfl⟩ : ∃ m, k = m + 1 := ⟨k - 1, by omega⟩
    simp only [homographref11_Number.f]
    by_cases h : n < 128
    · rw [if_pos (by omega), num_lt n h, show (n : Int) % 256 = (n : Int) by omega]
    · have e := num_ge n h
      rw [e, List.length_cons] at hk
      have e1 : IntKind.u64.wrap (Int.tdiv (n : Int) 128) = ((n / 128 : Nat) : Int) := by rw [IntKind.wrap_u64, Int.tdiv_eq_ediv_of_nonneg (by omega)]; omega
      have e2 : IntKind.u64.wrap (Int.tmod (n : Int) 128 + 128) % 256 = ((n % 128 + 128 : Nat) : Int) := by rw [IntKind.wrap_u64, Int.tmod_eq_emod_of_nonneg (by omega)]; omega
      have hl := num_len10 (n / 128) (by omega)
      rw [if_neg (by omega), e1, ih (n / 128) (by omega) (by omega) k (by omega), e2]
      simp only [Option.bind_some]
      rw [if_pos (by rw [so_size, so_size]; simp only [List.length_cons, List.length_nil]; omega), e, ← so_app]
      rfl
/-! Value. -/
def lp (i : Nat) : List Int → Nat → Option (Nat × Nat)
  | [], _ => none
  | c :: r, N => if 10 ≤ i then none else if c < 128 then some (N + 128 ^ i * c.toNat, i + 1) else lp (i + 1) r (N + 128 ^ i * (c.toNat - 128))
theorem lp_num (m : Nat) : ∀ (i N : Nat) (r : List Int), i + (num m).length ≤ 10 → lp i (num m ++ r) N = some (N + 128 ^ i * m, i + (num m).length) := by
  induction m using Nat.strongRecOn with
  | _ m ih =>
    intro i N r h10
    by_cases h : m < 128
    · rw [num_lt m h] at h10 ⊢
      simp only [List.length_singleton] at h10
      simp only [List.cons_append, List.nil_append, lp]
      rw [if_neg (by omega), if_pos (by omega)]
      simp
    · rw [num_ge m h] at h10 ⊢
      rw [List.length_cons] at h10
      simp only [List.cons_append, lp]
      rw [if_neg (by omega), if_neg (by omega), ih (m / 128) (by omega) (i + 1) _ r (by omega)]
      simp only [List.length_cons, Option.some.injEq, Prod.mk.injEq]
      refine ⟨?_, by omega⟩
      have e : ((m % 128 + 128 : Nat) : Int).toNat - 128 = m % 128 := by omega
      have e2 : m % 128 + 128 * (m / 128) = m := by omega
      rw [e, Nat.pow_succ, Nat.mul_assoc, Nat.add_assoc, ← Nat.mul_add, e2]
theorem lp_len : ∀ (l : List Int) (i N n c : Nat), lp i l N = some (n, c) → c ≤ i + l.length := by
  intro l
  induction l with
  | nil => intro i N n c h; simp [lp] at h
  | cons x r ih =>
    intro i N n c h
    simp only [lp] at h
    split at h
    · cases h
    · split at h
      · injection h with h; injection h with _ h; rw [List.length_cons]; omega
      · have := ih _ _ _ _ h; rw [List.length_cons]; omega
def valR (l : List Int) : Int × Int := match lp 0 l 0 with
  | some (N, c) => if num (N % 18446744073709551616) = l.take c then (((N % 18446744073709551616 : Nat) : Int), (c : Int)) else (0, 0)
  | none => (0, 0)
theorem valR_eq (l : List Int) (hb : B8 l) : valR l = valL l := by
  unfold valR valL
  cases hd : dec 0 l with
  | some q =>
    obtain ⟨m, c⟩ := q
    obtain ⟨e1, e2, e3, _, _⟩ := dec_spec l 0 m c hb hd
    have hm : m < 18446744073709551616 := by simpa using e3
    have h10 := num_len10 m hm
    have h1 := lp_num m 0 0 (l.drop c) (by omega)
    rw [← e1, Nat.zero_add, Nat.pow_zero, Nat.one_mul, ← e2, Nat.zero_add] at h1
    rw [h1]
    have h2 : num m = l.take c := by
      have := congrArg (List.take c) e1
      rw [this, List.take_append_of_le_length (by omega), e2, List.take_length]
    simp only
    rw [Nat.mod_eq_of_lt hm, if_pos h2]
  | none =>
    cases hl : lp 0 l 0 with
    | none => rfl
    | some q =>
      obtain ⟨N, c⟩ := q
      simp only
      rw [if_neg]
      intro h
      exact dec_none l hb hd (N % 18446744073709551616) (Nat.mod_lt _ (by decide)) (l.drop c) (by rw [h, List.take_append_drop])
theorem w64m (x : Nat) : IntKind.u64.wrap (x : Int) = ((x % 18446744073709551616 : Nat) : Int) := by rw [IntKind.wrap_u64]; omega
theorem rvalue_l (l : List Int) (hb : B8 l) (hl : l.length ≤ 9223372036854775806) (d : Nat) : ∀ (k i N : Nat), i + d = l.length → i ≤ 10 → 2 * d + 20 < k →
    homographref11_Value.l0 k (strOfNums l) ((N % 18446744073709551616 : Nat) : Int) ((128 ^ i % 18446744073709551616 : Nat) : Int) (i : Int) = some (match lp i (l.drop i) N with
      | some (N, c) => if num (N % 18446744073709551616) = l.take c then (((N % 18446744073709551616 : Nat) : Int), (c : Int)) else (0, 0)
      | none => (0, 0)) := by
  induction d with
  | zero =>
    intro k i N hi h10 hk
    obtain ⟨k, rfl⟩ : ∃ m, k = m + 2 := ⟨k - 2, by omega⟩
    simp only [homographref11_Value.l0, homographref11_Value.j1]
    rw [if_neg (by rw [so_size]; omega), if_neg (by simp), List.drop_of_length_le (by omega)]; rfl
  | succ d ih =>
    intro k i N hi h10 hk
    obtain ⟨k, rfl⟩ : ∃ m, k = m + 2 := ⟨k - 2, by omega⟩
    have hlt : i < l.length := by omega
    have hc := hb l[i] (List.getElem_mem hlt)
    have e1 : wrap64 ((i : Int) + 1) = ((i + 1 : Nat) : Int) := by rw [w1 (by omega) (by omega)]; omega
    have hI := ih k (i + 1)
    rw [List.drop_eq_getElem_cons hlt]
    simp only [homographref11_Value.l0, homographref11_Value.j1, lp]
    rw [if_pos (by rw [so_size]; omega)]
    by_cases hi10 : 10 ≤ i
    · rw [if_neg (by simp; omega), if_pos hi10]
    · rw [if_pos (by simp; omega), if_pos (by omega), if_pos (by rw [so_size]; omega), so_bt l hb i hlt, e1, if_neg hi10]
      obtain ⟨x, hx⟩ := Int.eq_ofNat_of_zero_le hc.1
      rw [hx]
      have hxb : x < 256 := by omega
      have ea : IntKind.u64.wrap (((N % 18446744073709551616 : Nat) : Int) + IntKind.u64.wrap (((128 ^ i % 18446744073709551616 : Nat) : Int) * IntKind.u64.wrap (Int.tmod (x : Int) 128))) = (((N + 128 ^ i * (x % 128)) % 18446744073709551616 : Nat) : Int) := by
        rw [Int.tmod_eq_emod_of_nonneg (by omega), show ((x : Int) % 128) = ((x % 128 : Nat) : Int) by omega, w64m, Nat.mod_eq_of_lt (show x % 128 < 18446744073709551616 by omega)]
        rw [show (((128 ^ i % 18446744073709551616 : Nat) : Int) * ((x % 128 : Nat) : Int)) = (((128 ^ i % 18446744073709551616) * (x % 128) : Nat) : Int) by simp, w64m]
        rw [show (((N % 18446744073709551616 : Nat) : Int) + (((128 ^ i % 18446744073709551616) * (x % 128) % 18446744073709551616 : Nat) : Int)) = ((N % 18446744073709551616 + (128 ^ i % 18446744073709551616) * (x % 128) % 18446744073709551616 : Nat) : Int) by simp, w64m]
        congr 1
        rw [Nat.mod_mul_mod, ← Nat.add_mod]
      have eb : IntKind.u64.wrap (((128 ^ i % 18446744073709551616 : Nat) : Int) * 128) = ((128 ^ (i + 1) % 18446744073709551616 : Nat) : Int) := by
        rw [show (((128 ^ i % 18446744073709551616 : Nat) : Int) * 128) = (((128 ^ i % 18446744073709551616) * 128 : Nat) : Int) by simp, w64m, Nat.mod_mul_mod, Nat.pow_succ]
      rw [ea, eb]
      by_cases h128 : x < 128
      · have hxm : x % 128 = x := Nat.mod_eq_of_lt h128
        have hn := num_len10 ((N + 128 ^ i * (x % 128)) % 18446744073709551616) (Nat.mod_lt _ (by decide))
        rw [if_pos (by omega), if_pos (by omega), rnumber_f _ (Nat.mod_lt _ (by decide)) k (by omega)]
        simp only [Option.bind_some]
        rw [if_pos (by omega), if_pos (by rw [so_size]; omega), Int.toNat_natCast, so_extract, List.drop_zero, hxm]
        simp only [so_list _ _ (num_bd _) (fun y hy => hb y (List.mem_of_mem_take hy)), Int.toNat_natCast]
        split <;> rfl
      · have hxm : x % 128 = x - 128 := by omega
        rw [if_neg (by omega), if_neg (by omega), hI _ (by omega) (by omega) (by omega), hxm]
        simp only [Int.toNat_natCast]
theorem rvalue_f (l : List Int) (hb : B8 l) (hl : l.length ≤ 9223372036854775806) (k : Nat) (hk : 2 * l.length + 20 < k) : homographref11_Value.f k (strOfNums l) = some (valL l) := by
  unfold homographref11_Value.f
  have := rvalue_l l hb hl l.length k 0 0 (by omega) (by omega) hk
  rw [List.drop_zero] at this
  rw [← valR_eq l hb]
  unfold valR
  exact this
/-! Sum. -/
theorem xor_low (a c : Nat) (hc : c < 256) : a - a % 256 + (a % 256 ^^^ c) = a ^^^ c := by
  have h1 : (a ^^^ c) % 2 ^ 8 = a % 2 ^ 8 ^^^ c % 2 ^ 8 := Nat.xor_mod_two_pow
  have h2 : (a ^^^ c) / 2 ^ 8 = a / 2 ^ 8 ^^^ c / 2 ^ 8 := Nat.xor_div_two_pow
  rw [show (2 : Nat) ^ 8 = 256 from rfl] at h1 h2
  rw [Nat.mod_eq_of_lt hc] at h1
  rw [Nat.div_eq_of_lt hc, Nat.xor_zero] at h2
  have h3 := Nat.div_add_mod (a ^^^ c) 256
  have h4 := Nat.div_add_mod a 256
  omega
theorem xor_u64 (a b : Nat) (ha : a < 256) (hb : b < 256) : Go.bits .xor .u64 (a : Int) (b : Int) = ((a ^^^ b : Nat) : Int) ∧ a ^^^ b < 256 := by
  have hx : a ^^^ b < 2 ^ 8 := Nat.xor_lt_two_pow ha hb
  have ha' : a % 2 ^ IntKind.u64.bits = a := Nat.mod_eq_of_lt (Nat.lt_of_lt_of_le ha (by decide))
  have hb' : b % 2 ^ IntKind.u64.bits = b := Nat.mod_eq_of_lt (Nat.lt_of_lt_of_le hb (by decide))
  refine ⟨?_, hx⟩
  simp only [Go.bits, BitVec.ofInt_natCast, BitVec.toNat_xor, BitVec.toNat_ofNat, ha', hb']
  rw [IntKind.wrap_u64]
  omega
theorem rstep (a c : Nat) (ha : a < 4294967296) (hc : c < 256) :
    Int.tmod (IntKind.u64.wrap ((IntKind.u64.wrap ((IntKind.u64.wrap ((a : Int) - (Int.tmod (a : Int) 256))) + (Go.bits .xor .u64 (Int.tmod (a : Int) 256) (IntKind.u64.wrap (c : Int))))) * 16777619)) 4294967296 = sumStep (a : Int) (c : Int) := by
  have hx : a ^^^ c < 4294967296 := xor_lt32 a c ha (by omega)
  have hl := xor_low a c hc
  rw [sumStep_nat a c ha hc, Int.tmod_eq_emod_of_nonneg (show (0 : Int) ≤ (a : Int) by omega), show ((a : Int) % 256) = ((a % 256 : Nat) : Int) by omega]
  rw [show IntKind.u64.wrap (c : Int) = (c : Int) by rw [IntKind.wrap_u64]; omega, (xor_u64 (a % 256) c (by omega) hc).1]
  have hle : a % 256 ≤ a := Nat.mod_le _ _
  rw [show ((a : Int) - ((a % 256 : Nat) : Int)) = ((a - a % 256 : Nat) : Int) by omega]
  rw [show IntKind.u64.wrap ((a - a % 256 : Nat) : Int) = ((a - a % 256 : Nat) : Int) by rw [IntKind.wrap_u64]; omega]
  rw [show (((a - a % 256 : Nat) : Int) + ((a % 256 ^^^ c : Nat) : Int)) = ((a ^^^ c : Nat) : Int) by omega]
  generalize a ^^^ c = y at *
  rw [show IntKind.u64.wrap (y : Int) = (y : Int) by rw [IntKind.wrap_u64]; omega]
  rw [show IntKind.u64.wrap ((y : Int) * 16777619) = (y : Int) * 16777619 by rw [IntKind.wrap_u64]; omega]
  rw [Int.tmod_eq_emod_of_nonneg (by omega)]
  omega
theorem rsum_l (l : List Int) (hb : B8 l) (hl : l.length ≤ 9223372036854775806) (d : Nat) : ∀ (k i : Nat) (x : Int), i + d = l.length → d < k → 0 ≤ x ∧ x < 4294967296 →
    homographref11_Sum.l0 k (strOfNums l) x (i : Int) = some ((l.drop i).foldl sumStep x) := by
  induction d with
  | zero =>
    intro k i x hi hk hx
    obtain ⟨k, rfl⟩ : ∃ m, k = m + 1 := ⟨k - 1, by omega⟩
    simp only [homographref11_Sum.l0]
    rw [if_neg (by rw [so_size]; omega), List.drop_of_length_le (by omega), Int.emod_eq_of_lt hx.1 hx.2]; rfl
  | succ d ih =>
    intro k i x hi hk hx
    obtain ⟨k, rfl⟩ : ∃ m, k = m + 1 := ⟨k - 1, by omega⟩
    have hlt : i < l.length := by omega
    have e1 : wrap64 ((i : Int) + 1) = ((i + 1 : Nat) : Int) := by rw [w1 (by omega) (by omega)]; omega
    have hc := hb l[i] (List.getElem_mem hlt)
    simp only [homographref11_Sum.l0]
    rw [if_pos (by rw [so_size]; omega), if_pos (by omega), so_bt l hb i hlt, e1, List.drop_eq_getElem_cons hlt, List.foldl_cons]
    obtain ⟨a, rfl⟩ := Int.eq_ofNat_of_zero_le hx.1
    obtain ⟨c, hcc⟩ := Int.eq_ofNat_of_zero_le hc.1
    rw [hcc, rstep a c (by omega) (by omega)]
    exact ih k (i + 1) _ (by omega) (by omega) (sumStep_bd _ _)
theorem rsum_f (l : List Int) (hb : B8 l) (hl : l.length ≤ 9223372036854775806) (k : Nat) (hk : l.length < k) : homographref11_Sum.f k (strOfNums l) = some (sumL l) := by
  unfold homographref11_Sum.f sumL
  have := rsum_l l hb hl l.length k 0 2166136261 (by omega) hk (by decide)
  simpa using this
theorem rfour_f (n : Int) : homographref11_Four.f n = some (strOfNums (four n)) := rfl
end Go.Proofs.Ytokdggmobhnnpaa.Enc
