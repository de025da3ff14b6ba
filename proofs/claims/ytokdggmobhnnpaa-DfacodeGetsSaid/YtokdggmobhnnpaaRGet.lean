/- What the reference's Get comes to: getL. Own text: no walk in it. -/
import Derived.Test.YtokdggmobhnnpaaHRGet
import Derived.Test.YtokdggmobhnnpaaOpenB
namespace Go.Proofs.Ytokdggmobhnnpaa.Enc
open Go.RowKit Go.Proofs.Ytokdggmobhnnpaa Go.Proofs.Ytokdggmobhnnpaa.P Go.Proofs.YtokdggmobhnnpaaW.PrintWords Go.Proofs.YtokdggmobhnnpaaW.PrintLast Go.Proofs.YtokdggmobhnnpaaW.PrintMore
set_option linter.unusedVariables false

def valN (l : List Int) : Nat × Nat := match dec 0 l with
  | some (n, k) => (n, k)
  | none => (0, 0)
theorem valL_N (l : List Int) : valL l = (((valN l).1 : Int), ((valN l).2 : Int)) := by
  unfold valL valN
  cases dec 0 l with
  | none => rfl
  | some q => rfl
theorem valN_bd (l : List Int) (hb : B8 l) : (valN l).1 < 18446744073709551616 ∧ (valN l).2 ≤ l.length := by
  unfold valN
  cases hd : dec 0 l with
  | none => simp
  | some q =>
    obtain ⟨n, k⟩ := q
    obtain ⟨e1, e2, e3, _, _⟩ := dec_spec l 0 n k hb hd
    have hl := congrArg List.length e1
    rw [List.length_append, List.length_drop] at hl
    simp only
    refine ⟨by simpa using e3, by omega⟩
theorem valN_num (n : Nat) (hn : n < 18446744073709551616) (r : List Int) : valN (num n ++ r) = (n, (num n).length) := by
  unfold valN
  rw [dec_num n 0 r (by omega) (by simpa using hn) (.inr rfl)]
theorem B8_drop {l : List Int} (h : B8 l) (n : Nat) : B8 (l.drop n) := fun x hx => h x (List.mem_of_mem_drop hx)
def arcR (R : List Int) : S59 := ⟨R.getD 0 0, R.getD 1 0, ((min (valN (R.drop 2)).1 4096 : Nat) : Int)⟩
def rA : Nat → List Int → List S59 → List Int × List S59
  | 0, R, acc => (R, acc)
  | n + 1, R, acc => if 2 < R.length then rA n (R.drop (2 + (valN (R.drop 2)).2)) (acc ++ [arcR R]) else (R, acc)
def stR (R : List Int) : List Int × S57 :=
  let R1 := R.drop (valN R).2
  let R2 := R1.drop (valN R1).2
  let q := rA (min (valN R1).1 256) R2 []
  (q.1, ⟨((valN R).1 : Int), q.2⟩)
def rS : Nat → List Int → List S57 → List S57
  | 0, _, ms => ms
  | n + 1, R, ms => rS n (stR R).1 (ms ++ [(stR R).2])

/-! What they make is bounded. -/
def ArB4 (l : List S59) : Prop := ∀ a ∈ l, (0 ≤ a.f0 ∧ a.f0 ≤ 255) ∧ (0 ≤ a.f1 ∧ a.f1 ≤ 255)
theorem getD_bd {R : List Int} (h : B8 R) (i : Nat) : 0 ≤ R.getD i 0 ∧ R.getD i 0 ≤ 255 := by
  rw [List.getD_eq_getElem?_getD]
  by_cases hi : i < R.length
  · rw [List.getElem?_eq_getElem hi]; exact h _ (List.getElem_mem hi)
  · rw [List.getElem?_eq_none (by omega)]; simp
theorem rA_bd (n : Nat) : ∀ (R : List Int) (acc : List S59), B8 R → ArB4 acc → B8 (rA n R acc).1 ∧ ArB4 (rA n R acc).2 ∧ (rA n R acc).2.length ≤ acc.length + n ∧ (rA n R acc).1.length ≤ R.length := by
  induction n with
  | zero => intro R acc h h2; exact ⟨h, h2, by simp [rA], by simp [rA]⟩
  | succ n ih =>
    intro R acc h h2
    simp only [rA]
    split
    · obtain ⟨h3, h4, h5, h6⟩ := ih (R.drop (2 + (valN (R.drop 2)).2)) (acc ++ [arcR R]) (B8_drop h _) (fun a ha => by
        rcases List.mem_append.1 ha with ha | ha
        · exact h2 a ha
        · simp only [List.mem_singleton] at ha; subst ha; exact ⟨getD_bd h 0, getD_bd h 1⟩)
      refine ⟨h3, h4, by rw [List.length_append, List.length_singleton] at h5; omega, by rw [List.length_drop] at h6; omega⟩
    · exact ⟨h, h2, by simp only; omega, Nat.le_refl _⟩
theorem stR_bd (R : List Int) (h : B8 R) : B8 (stR R).1 ∧ StB (stR R).2 ∧ (stR R).2.f1.length ≤ 256 ∧ (stR R).1.length ≤ R.length := by
  have h1 := valN_bd R h
  obtain ⟨h3, h4, h5, h6⟩ := rA_bd (min (valN (R.drop (valN R).2)).1 256) ((R.drop (valN R).2).drop (valN (R.drop (valN R).2)).2) [] (B8_drop (B8_drop h _) _) (fun a ha => by simp at ha)
  rw [List.length_nil] at h5
  have hl : (stR R).2.f1.length ≤ 256 := by show (rA _ _ _).2.length ≤ _; omega
  refine ⟨h3, ⟨⟨by show (0 : Int) ≤ ((valN R).1 : Int); omega, by show ((valN R).1 : Int) < _; omega⟩, by omega, h4⟩, hl, ?_⟩
  show (rA _ _ _).1.length ≤ _
  rw [List.length_drop, List.length_drop] at h6
  omega
theorem rS_bd (n : Nat) : ∀ (R : List Int) (ms : List S57), B8 R → (∀ s ∈ ms, StB s) → ∀ s ∈ rS n R ms, StB s := by
  induction n with
  | zero => intro R ms _ h; exact h
  | succ n ih =>
    intro R ms h h2
    obtain ⟨h3, h4, _⟩ := stR_bd R h
    exact ih _ _ h3 (fun s hs => by
      rcases List.mem_append.1 hs with hs | hs
      · exact h2 s hs
      · simp only [List.mem_singleton] at hs; subst hs; exact h4)
/-! A machine's own bytes are read back. -/
theorem rA_enc : ∀ (l acc : List S59) (r : List Int), (∀ a ∈ l, OkA a ∧ a.f2 ≤ 4096) → rA l.length (l.flatMap encA ++ r) acc = (r, acc ++ l) := by
  intro l
  induction l with
  | nil => intro acc r _; simp [rA]
  | cons a l ih =>
    intro acc r h
    obtain ⟨⟨_, _, h2⟩, h3⟩ := h a (by simp)
    have hp := num_len_pos a.f2.toNat
    have hv : valN (num a.f2.toNat ++ (l.flatMap encA ++ r)) = (a.f2.toNat, (num a.f2.toNat).length) := valN_num _ (by omega) _
    have e : (a :: l).flatMap encA ++ r = a.f0 :: a.f1 :: (num a.f2.toNat ++ (l.flatMap encA ++ r)) := by simp [encA]
    rw [e]
    simp only [List.length_cons, rA]
    rw [if_pos (by simp only [List.length_append]; omega)]
    have e2 : arcR (a.f0 :: a.f1 :: (num a.f2.toNat ++ (l.flatMap encA ++ r))) = a := by
      unfold arcR
      simp only [List.drop_succ_cons, List.drop_zero, hv, List.getD_cons_zero, List.getD_cons_succ]
      rw [Nat.min_eq_left (by omega), Int.toNat_of_nonneg h2.1]
    rw [e2]
    simp only [List.drop_succ_cons, List.drop_zero, hv]
    rw [show 2 + (num a.f2.toNat).length = (num a.f2.toNat).length + 1 + 1 by omega, List.drop_succ_cons, List.drop_succ_cons, List.drop_left, ih _ _ (fun x hx => h x (by simp [hx]))]
    simp
theorem stR_enc (s : S57) (hs : OkS s) (h256 : s.f1.length ≤ 256) (h4 : ∀ a ∈ s.f1, a.f2 ≤ 4096) (r : List Int) : stR (encS s ++ r) = (r, s) := by
  obtain ⟨h1, h2, h3⟩ := hs
  have e : encS s ++ r = num s.f0.toNat ++ (num s.f1.length ++ (s.f1.flatMap encA ++ r)) := by simp [encS]
  have e1 := valN_num s.f0.toNat (by omega) (num s.f1.length ++ (s.f1.flatMap encA ++ r))
  have e2 := valN_num s.f1.length (by omega) (s.f1.flatMap encA ++ r)
  unfold stR
  rw [e]
  simp only [e1, List.drop_left, e2]
  rw [Nat.min_eq_left h256, rA_enc s.f1 [] r (fun a ha => ⟨h3 a ha, h4 a ha⟩), Int.toNat_of_nonneg h1.1]
  simp
theorem rS_enc : ∀ (l ms : List S57) (r : List Int), (∀ s ∈ l, OkS s ∧ s.f1.length ≤ 256 ∧ ∀ a ∈ s.f1, a.f2 ≤ 4096) → rS l.length (l.flatMap encS ++ r) ms = ms ++ l := by
  intro l
  induction l with
  | nil => intro ms r _; simp [rS]
  | cons s l ih =>
    intro ms r h
    obtain ⟨h1, h2, h3⟩ := h s (by simp)
    simp only [List.length_cons, rS]
    rw [List.flatMap_cons, List.append_assoc, stR_enc s h1 h2 h3, ih _ _ (fun x hx => h x (by simp [hx]))]
    simp
/-! The loops. -/
def finR (b : List Int) (m : List S57) : List S57 × Int := if goodB m = true ∧ putL m = b then (m, 0) else ([], 110)
theorem fin_f (b : List Int) (hb : B8 b) (m : List S57) (hS : ∀ s ∈ m, StB s) :
    ((P.homographref11_Put.f m).bind fun bt168 => (if bt168.2 = 0 then (if bt168.1.toList = (strOfNums b).toList then (some (m, (0 : Int))) else (some (([] : List (S57)), 110))) else (some (([] : List (S57)), 110)))) = some (finR b m) := by
  have hp := preP_of m hS
  unfold P.homographref11_Put.f finR
  rw [if_pos hp]
  simp only [Option.bind_some]
  by_cases hg : goodB m = true
  · rw [if_pos hg, if_pos rfl]
    have ho := hp.2 hg
    simp only [so_list _ _ (putL_bd m ho) hb, hg, true_and]
    split <;> rfl
  · rw [if_neg hg, if_neg (by simp), if_neg (fun h => hg h.1)]
theorem mn_min (a : Nat) : wrap64 (mn (a : Int) 4096) = ((min a 4096 : Nat) : Int) := by unfold mn wrap64; split <;> omega
theorem bt0 (R : List Int) (h : B8 R) (i : Nat) (hi : i < R.length) : bt (strOfNums R) (i : Int) = R.getD i 0 := by
  rw [so_bt R h i hi, List.getD_eq_getElem?_getD, List.getElem?_eq_getElem hi]; rfl
theorem w64 (i : Nat) (h : i < 18446744073709551615) : IntKind.u64.wrap ((i : Int) + 1) = ((i + 1 : Nat) : Int) := by rw [IntKind.wrap_u64]; omega
set_option maxHeartbeats 2000000 in
theorem rget_l1 (b : List Int) (L : Nat) (hL : L ≤ 1000000) (many : Int) (ms : List S57) (hms : ms.length < 4398046511104) (i : Int) (cnt : Nat) (acp : Int) (N : Nat) (Res : Option (List S57 × Int)) (n : Nat) :
    ∀ (x : Nat) (R : List Int) (acc : List S59) (k : Nat), x + n = min cnt 256 → B8 R → R.length ≤ L → acc.length ≤ x →
    (∀ k, N ≤ k → homographref11_Get.l0 k (strOfNums b) (strOfNums (rA n R acc).1) many (ms ++ [⟨acp, (rA n R acc).2⟩]) (IntKind.u64.wrap (i + 1)) = Res) → N + n + 2 * L + 30 < k →
    homographref11_Get.l1 k (strOfNums b) (strOfNums R) many ms i (cnt : Int) (x : Int) acp acc = Res := by
  induction n with
  | zero =>
    intro x R acc k hx hR hl ha hn hk
    obtain ⟨k, rfl⟩ : ∃ m, k = m + 1 := ⟨k - 1, by omega⟩
    have hn' := hn k (by omega)
    simp only [rA] at hn'
    simp only [homographref11_Get.l1]
    by_cases h1 : (x : Int) < (cnt : Int)
    · rw [if_pos h1, if_neg (by omega), if_pos hms]; exact hn'
    · rw [if_neg h1, if_pos hms]; exact hn'
  | succ n ih =>
    intro x R acc k hx hR hl ha hn hk
    obtain ⟨k, rfl⟩ : ∃ m, k = m + 1 := ⟨k - 1, by omega⟩
    simp only [homographref11_Get.l1]
    rw [if_pos (by omega), if_pos (by omega)]
    simp only [rA] at hn
    by_cases h2 : 2 < R.length
    · rw [if_pos h2] at hn
      have hvb := valN_bd (R.drop 2) (B8_drop hR 2)
      rw [List.length_drop] at hvb
      have hA : arcR R = ⟨R.getD 0 0, R.getD 1 0, ((min (valN (R.drop 2)).1 4096 : Nat) : Int)⟩ := rfl
      have hrv := rvalue_f _ (B8_drop hR 2) (by rw [List.length_drop]; omega) k (by rw [List.length_drop]; omega)
      rw [valL_N] at hrv
      have e0 : bt (strOfNums R) 0 = R.getD 0 0 := bt0 R hR 0 (by omega)
      have e1 : bt (strOfNums R) 1 = R.getD 1 0 := bt0 R hR 1 (by omega)
      have ex := w64 x (by omega)
      rw [hA] at hn
      generalize valN (R.drop 2) = v at *
      obtain ⟨vn, vk⟩ := v
      simp only at hvb hn hrv
      have g1 : (R.length : Int) > 2 := by omega
      have g2 : (2 : Int) ≤ (R.length : Int) := by omega
      have g3 : (0 : Int) < (R.length : Int) := by omega
      have g4 : (1 : Int) < (R.length : Int) := by omega
      have g5 : acc.length < 8796093022208 := by omega
      have g6 : (0 : Int) ≤ ((2 + vk : Nat) : Int) := by omega
      have g7 : ((2 + vk : Nat) : Int) ≤ (R.length : Int) := by omega
      have g8 : (R.drop (2 + vk)).length ≤ L := by rw [List.length_drop]; omega
      have g9 : x + 1 + n = min cnt 256 := by omega
      have g10 : acc.length + 1 ≤ x + 1 := by omega
      have g11 : N + n + 2 * L + 30 < k := by omega
      have ew : wrap64 (2 + (vk : Int)) = ((2 + vk : Nat) : Int) := by unfold wrap64; omega
      rw [so_size, if_pos g1, if_pos g2, so_drop, hrv]
      simp only [Option.bind_some]
      rw [if_pos g3, if_pos g4, if_pos g5, ew, if_pos g6, if_pos g7, Int.toNat_natCast, so_drop, e0, e1, mn_min, ex]
      exact ih (x + 1) _ _ k g9 (B8_drop hR _) g8 (by rw [List.length_append, List.length_singleton]; exact g10) hn g11
    · rw [if_neg h2] at hn
      rw [if_neg (by rw [so_size]; omega), if_pos hms]
      exact hn k (by omega)
set_option maxHeartbeats 2000000 in
theorem rget_l0 (b : List Int) (hb : B8 b) (L : Nat) (hL : L ≤ 1000000) (many : Nat) (n : Nat) :
    ∀ (i : Nat) (R : List Int) (ms : List S57) (k : Nat), i + n = min many 4097 → B8 R → R.length ≤ L → ms.length ≤ i → (∀ s ∈ ms, StB s) → (n + 1) * (2 * L + 300) < k →
    homographref11_Get.l0 k (strOfNums b) (strOfNums R) (many : Int) ms (i : Int) = some (finR b (rS n R ms)) := by
  induction n with
  | zero =>
    intro i R ms k hi hR hl hm hS hk
    obtain ⟨k, rfl⟩ : ∃ m, k = m + 2 := ⟨k - 2, by omega⟩
    have hf := fin_f b hb ms hS
    simp only [homographref11_Get.l0, homographref11_Get.j2, rS]
    by_cases h1 : (i : Int) < (many : Int)
    · rw [if_pos h1, if_neg (by simp; omega)]; exact hf
    · rw [if_neg h1, if_neg (by simp)]; exact hf
  | succ n ih =>
    intro i R ms k hi hR hl hm hS hk
    have hmul : (n + 1 + 1) * (2 * L + 300) = (n + 1) * (2 * L + 300) + (2 * L + 300) := by rw [Nat.add_mul, Nat.one_mul]
    rw [hmul] at hk
    obtain ⟨Z, hZ⟩ : ∃ Z, Z = (n + 1) * (2 * L + 300) := ⟨_, rfl⟩
    rw [← hZ] at hk ih
    clear hmul hZ
    obtain ⟨k, rfl⟩ : ∃ m, k = m + 2 := ⟨k - 2, by omega⟩
    have hv1 := valN_bd R hR
    have hR1 : B8 (R.drop (valN R).2) := B8_drop hR _
    have hv2 := valN_bd _ hR1
    have hl1 : (R.drop (valN R).2).length ≤ L := by rw [List.length_drop]; omega
    obtain ⟨h3, h4, h5, h6⟩ := stR_bd R hR
    simp only [homographref11_Get.l0, homographref11_Get.j2, rS]
    rw [if_pos (by omega), if_pos (by simp; omega), rvalue_f R hR (by omega) k (by omega), valL_N]
    simp only [Option.bind_some]
    rw [if_pos (by omega), if_pos (by rw [so_size]; omega), Int.toNat_natCast, so_size, so_drop, rvalue_f _ hR1 (by omega) k (by omega), valL_N]
    simp only [Option.bind_some]
    rw [if_pos (by omega), if_pos (by rw [so_size]; omega), Int.toNat_natCast, so_size, so_drop]
    rw [show (0 : Int) = ((0 : Nat) : Int) from rfl]
    refine rget_l1 b L hL _ ms (by omega) _ _ _ (Z + 1) _ (min (valN (R.drop (valN R).2)).1 256) 0 _ [] k (by omega) (B8_drop hR1 _) (by rw [List.length_drop]; omega) (by simp) (fun k hk => ?_) (by omega)
    rw [w64 i (by omega)]
    refine ih (i + 1) _ _ k (by omega) h3 (Nat.le_trans h6 hl) (by rw [List.length_append, List.length_singleton]; omega) (fun s hs => ?_) (by omega)
    rcases List.mem_append.1 hs with hs | hs
    · exact hS s hs
    · simp only [List.mem_singleton] at hs; subst hs; exact h4
theorem finR_eq (b : List Int) (hb : B8 b) (m : List S57) (hS : ∀ s ∈ m, StB s) (h : ∀ m', goodB m' = true → OkM m' → b = putL m' → m = m') : finR b m = getL b := by
  have hp := preP_of m hS
  unfold finR
  rcases get_spec b hb with ⟨e, hn⟩ | ⟨m', e, hg, ho, hm⟩
  · rw [e, if_neg (fun hh => hn m hh.1 (hp.2 hh.1) hh.2.symm)]
  · obtain rfl := h m' hg ho hm
    rw [e, if_pos ⟨hg, hm.symm⟩]
theorem body_drop (m : List S57) : (body m).drop 4 = num m.length ++ m.flatMap encS := rfl
theorem rget_fk (b : List Int) (hb : B8 b) (hl : b.length ≤ 1000000) (kk : Nat) (hkk : 5000 * (2 * b.length + 300) < kk) : homographref11_Get.f (kk + 1) (strOfNums b) = some (getL b) := by
  unfold homographref11_Get.f
  have hno : (∀ m', goodB m' = true → OkM m' → b ≠ putL m') → getL b = ([], 110) := fun h => by
    rcases get_spec b hb with ⟨e, _⟩ | ⟨m', e, hg, ho, hm⟩
    · exact e
    · exact (h m' hg ho hm).elim
  have hlen : ∀ m' : List S57, 9 ≤ (putL m').length := fun m' => by
    have := num_len_pos m'.length
    unfold putL body
    simp only [List.length_append, List.length_cons, four_len]
    omega
  rw [so_size]
  by_cases h5 : (b.length : Int) < 5
  · rw [if_pos h5]
    simp only [homographref11_Get.j0]
    rw [if_pos trivial, hno (fun m' _ _ e => by have := hlen m'; rw [← e] at this; omega)]
  · rw [if_neg h5, if_pos (by omega), if_pos (by omega), so_extract, List.drop_zero]
    have hM : ([68, 70, 65, 49] : List UInt8) = (strOfNums [68, 70, 65, 49]).toList := by decide +kernel
    simp only [homographref11_Get.j0]
    by_cases ht : b.take 4 = [68, 70, 65, 49]
    · rw [ht, ← hM, if_neg (by simp), so_size, if_pos (by omega), so_drop, so_size, rvalue_f _ (B8_drop hb 4) (by rw [List.length_drop]; omega) kk (by rw [List.length_drop]; omega), valL_N]
      simp only [Option.bind_some]
      have hv := valN_bd (b.drop 4) (B8_drop hb 4)
      rw [if_pos (by omega), if_pos (by omega), Int.toNat_natCast, so_drop, show (0 : Int) = ((0 : Nat) : Int) from rfl]
      have hbl : (b.drop 4).length ≤ b.length := by rw [List.length_drop]; omega
      obtain ⟨n0, hn0⟩ : ∃ n0, n0 = min (valN (b.drop 4)).1 4097 := ⟨_, rfl⟩
      have hn1 : n0 + 1 ≤ 4998 := by omega
      have hmu : (n0 + 1) * (2 * b.length + 300) < kk := Nat.lt_of_le_of_lt (Nat.mul_le_mul (Nat.le_trans hn1 (by decide)) (Nat.le_refl _)) hkk
      have hl0 := rget_l0 b hb b.length hl (valN (b.drop 4)).1 n0 0 ((b.drop 4).drop (valN (b.drop 4)).2) [] kk (by rw [hn0, Nat.zero_add]) (B8_drop (B8_drop hb 4) _) (by rw [List.length_drop]; omega) (Nat.le_refl _) (fun s hs => by simp at hs) hmu
      rw [hl0, hn0]
      rw [finR_eq b hb _ (rS_bd _ _ _ (B8_drop (B8_drop hb 4) _) (fun s hs => by simp at hs))]
      intro m' hg ho e
      have hga := good_arcs m' hg ho
      have h4k := good_len m' hg
      have ed : b.drop 4 = num m'.length ++ (m'.flatMap encS ++ four (sumL (body m'))) := by
        rw [e]; unfold putL; rw [List.drop_append_of_le_length (by unfold body; simp only [List.length_cons]; omega), body_drop, List.append_assoc]
      rw [ed, valN_num m'.length (by omega), List.drop_left, Nat.min_eq_left (by simp only; omega), rS_enc m' [] _ (fun s hs => ⟨ho.2 s hs, (hga s hs).1, fun a ha => by have := ((hga s hs).2 a ha).2; omega⟩), List.nil_append]
    · have hne : (strOfNums (b.take 4)).toList ≠ ([68, 70, 65, 49] : List UInt8) := fun h => ht (by
        rw [hM] at h
        exact (so_list _ _ (fun x hx => hb x (List.mem_of_mem_take hx)) (by decide)).1 h)
      rw [if_pos (by rw [bne_iff_ne]; exact hne), hno (fun m' _ _ e => ht (by rw [e]; unfold putL body; rfl))]
theorem rget_f (b : List Int) (hb : B8 b) (hl : b.length ≤ 1000000) : ∃ k, homographref11_Get.f k (strOfNums b) = some (getL b) := ⟨_, rget_fk b hb hl _ (Nat.lt_succ_self _)⟩
end Go.Proofs.Ytokdggmobhnnpaa.Enc
