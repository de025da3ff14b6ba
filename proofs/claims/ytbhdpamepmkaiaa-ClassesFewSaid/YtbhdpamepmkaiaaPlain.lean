/- What the printed functions of the machines come to, as plain functions on lists. Own text: no walk in it. -/
import Derived.Test.YtbhdpamepmkaiaaP2
import Derived.Test.YtbhdpamepmkaiaaP3
import Derived.Test.YtbhdpamepmkaiaaP4
import Derived.Test.YtbhdpamepmkaiaaP5
import Derived.Test.YtbhdpamepmkaiaaP6
import Derived.Test.YtbhdpamepmkaiaaP7
import Derived.Test.YtbhdpamepmkaiaaP8
namespace Go.Proofs.Ytbhdpamepmkaiaa.Plain
open Go.RowKit Go.Proofs.Ytbhdpamepmkaiaa.P Go.Proofs.YtbhdpamepmkaiaaW.PrintWords Go.Proofs.YtbhdpamepmkaiaaW.PrintLast Go.Proofs.YtbhdpamepmkaiaaW.PrintMore
set_option linter.unusedVariables false

theorem w1 {i : Int} (h0 : 0 ≤ i) (h : i < 9223372036854775807) : wrap64 (i + 1) = i + 1 := by unfold wrap64; omega

theorem w1m {i : Int} (h0 : 0 < i) (h : i < 9223372036854775807) : wrap64 (i - 1) = i - 1 := by unfold wrap64; omega
def inArc (b : Int) (a : S50) : Bool := decide (a.f0 ≤ b) && decide (b ≤ a.f1)
def nextA (arcs : List S50) (b : Int) : Int := match arcs.find? (inArc b) with
  | some a => a.f2
  | none => -1
def nextM (m : List S48) (i b : Int) : Int := if 0 ≤ i ∧ i < (m.length : Int) then nextA (m.getD i.toNat z48).f1 b else -1
/-- No row of arcs is longer than L. -/
def Short (m : List S48) (L : Nat) : Prop := L ≤ 9223372036854775807 ∧ ∀ s ∈ m, s.f1.length ≤ L
theorem Short.at_ {m : List S48} {L : Nat} (h : Short m L) (i : Nat) : (m.getD i z48).f1.length ≤ L := by
  rw [List.getD_eq_getElem?_getD]
  cases hq : m[i]? with
  | none => simp [z48]
  | some s => exact h.2 s (List.mem_of_getElem? hq)
theorem short_of {w : World} {A : Option Addr} {n : Nat} {m : List S48} (h : Kd.C k48 w A n m) : ∃ L, Short m L := by
  refine ⟨9223372036854775807, Nat.le_refl _, fun s hs => ?_⟩
  obtain ⟨j, hj, e⟩ := List.getElem_of_mem hs
  obtain ⟨ad, A1, c1, _, _, _, _, hC⟩ := at_T48 h (j : Int) (by omega) (by have := h.1; omega)
  have e2 : rd_T48 m (j : Int) = s := by simp [rd_T48, hj, e]
  rw [e2] at hC
  exact hC.2.1

theorem nextA_cons (a : S50) (l : List S50) (b : Int) : nextA (a :: l) b = if a.f0 ≤ b ∧ b ≤ a.f1 then a.f2 else nextA l b := by
  unfold nextA
  by_cases h : a.f0 ≤ b ∧ b ≤ a.f1
  · have hq : inArc b a = true := by simp [inArc, h.1, h.2]
    rw [List.find?_cons_of_pos hq, if_pos h]
  · have hq : ¬ inArc b a = true := by simp [inArc]; omega
    rw [List.find?_cons_of_neg hq, if_neg h]
theorem rd50 (l : List S50) (i : Nat) (h : i < l.length) : rd_T50 l (i : Int) = l[i] := by simp [rd_T50, h]
theorem rd48 (l : List S48) (i : Nat) (h : i < l.length) : rd_T48 l (i : Int) = l[i] := by simp [rd_T48, h]
theorem getD48 (l : List S48) (i : Nat) (h : i < l.length) : l.getD i z48 = l[i] := by simp [h]

theorem dnext_l (b : Int) (l : List S50) (hl : l.length ≤ 9223372036854775807) (d : Nat) : ∀ k i : Nat, i + d = l.length → d < k → dfa_Next.l0 k b l (l.length : Int) (i : Int) = some (nextA (l.drop i) b) := by
  induction d with
  | zero =>
    intro k i hi hk
    obtain ⟨k, rfl⟩ : ∃ m, k = m + 1 := ⟨k - 1, by omega⟩
    simp only [dfa_Next.l0]; rw [if_neg (by omega), List.drop_of_length_le (by omega)]; rfl
  | succ d ih =>
    intro k i hi hk
    obtain ⟨k, rfl⟩ : ∃ m, k = m + 1 := ⟨k - 1, by omega⟩
    have hlt : i < l.length := by omega
    have hn := ih k (i + 1) (by omega) (by omega)
    have e1 : wrap64 ((i : Int) + 1) = ((i + 1 : Nat) : Int) := by rw [w1 (by omega) (by omega)]; omega
    simp only [dfa_Next.l0]; rw [if_pos (by omega), if_pos (by omega), if_pos (by omega), rd50 l i hlt, e1, hn, List.drop_eq_getElem_cons hlt, nextA_cons]
    by_cases h1 : l[i].f0 ≤ b
    · by_cases h2 : b ≤ l[i].f1
      · rw [if_pos h1, if_pos h2, if_pos ⟨h1, h2⟩]
      · rw [if_pos h1, if_neg h2, if_neg (fun h => h2 h.2)]
    · rw [if_neg h1, if_neg (fun h => h1 h.1)]
theorem dnext_f (m : List S48) (L : Nat) (hL : Short m L) (i b : Int) (k : Nat) (hk : L + 2 ≤ k) : dfa_Next.f k m i b = some (nextM m i b) := by
  obtain ⟨k, rfl⟩ : ∃ m, k = m + 1 := ⟨k - 1, by omega⟩
  unfold dfa_Next.f nextM
  by_cases h0 : i < 0
  · rw [if_pos h0, if_neg (by omega)]; simp [dfa_Next.j0]
  · rw [if_neg h0]
    simp only [dfa_Next.j0]
    by_cases h1 : i < (m.length : Int)
    · obtain ⟨n, rfl⟩ := Int.eq_ofNat_of_zero_le (by omega : 0 ≤ i)
      rw [if_neg (by simp; omega), if_pos (by omega), if_pos h1, if_pos ⟨by omega, h1⟩, rd48 m n (by omega), Int.toNat_natCast, getD48 m n (by omega)]
      have hs := hL.2 _ (List.getElem_mem (by omega : n < m.length))
      have hq := dnext_l b m[n].f1 (by have := hL.1; omega) m[n].f1.length k 0 (by omega) (by omega)
      simpa using hq
    · rw [if_pos (by simp; omega), if_neg (by omega)]

theorem rnext_l (b : Int) (l : List S50) (hl : l.length ≤ 9223372036854775807) (d : Nat) : ∀ k i : Nat, i + d = l.length → d < k → homographref07_Next.l0 k b l (i : Int) = some (nextA (l.drop i) b) := by
  induction d with
  | zero =>
    intro k i hi hk
    obtain ⟨k, rfl⟩ : ∃ m, k = m + 1 := ⟨k - 1, by omega⟩
    simp only [homographref07_Next.l0]; rw [if_neg (by omega), List.drop_of_length_le (by omega)]; rfl
  | succ d ih =>
    intro k i hi hk
    obtain ⟨k, rfl⟩ : ∃ m, k = m + 1 := ⟨k - 1, by omega⟩
    have hlt : i < l.length := by omega
    have hn := ih k (i + 1) (by omega) (by omega)
    have e1 : wrap64 ((i : Int) + 1) = ((i + 1 : Nat) : Int) := by rw [w1 (by omega) (by omega)]; omega
    simp only [homographref07_Next.l0]; rw [if_pos (by omega), if_pos (by omega), rd50 l i hlt, e1, hn, List.drop_eq_getElem_cons hlt, nextA_cons]
    by_cases h1 : l[i].f0 ≤ b
    · by_cases h2 : b ≤ l[i].f1
      · rw [if_pos h1, if_pos h2, if_pos ⟨h1, h2⟩]
      · rw [if_pos h1, if_neg h2, if_neg (fun h => h2 h.2)]
    · rw [if_neg h1, if_neg (fun h => h1 h.1)]
theorem rnext_f (m : List S48) (L : Nat) (hL : Short m L) (i b : Int) (k : Nat) (hk : L + 2 ≤ k) : homographref07_Next.f k m i b = some (nextM m i b) := by
  obtain ⟨k, rfl⟩ : ∃ m, k = m + 1 := ⟨k - 1, by omega⟩
  unfold homographref07_Next.f nextM
  by_cases h0 : i < 0
  · rw [if_pos h0, if_neg (by omega)]; simp [homographref07_Next.j0]
  · rw [if_neg h0]
    simp only [homographref07_Next.j0]
    by_cases h1 : i < (m.length : Int)
    · obtain ⟨n, rfl⟩ := Int.eq_ofNat_of_zero_le (by omega : 0 ≤ i)
      rw [if_neg (by simp; omega), if_pos (by omega), if_pos h1, if_pos ⟨by omega, h1⟩, rd48 m n (by omega), Int.toNat_natCast, getD48 m n (by omega)]
      have hs := hL.2 _ (List.getElem_mem (by omega : n < m.length))
      have hq := rnext_l b m[n].f1 (by have := hL.1; omega) m[n].f1.length k 0 (by omega) (by omega)
      simpa using hq
    · rw [if_pos (by simp; omega), if_neg (by omega)]

/-- Do the states from i on lead to the same by two bytes? -/
def alikeM (m : List S48) (a b : Int) : Bool := (List.range m.length).all fun i => nextM m (i : Int) a == nextM m (i : Int) b
def alikeF (m : List S48) (a b : Int) (i : Nat) : Bool := (List.range' i (m.length - i)).all fun i => nextM m (i : Int) a == nextM m (i : Int) b
theorem alike_l (m : List S48) (L : Nat) (hL : Short m L) (hm : m.length ≤ 9223372036854775807) (a b : Int) (d : Nat) : ∀ k i : Nat, i + d = m.length → L + 2 + d < k → homographref10_alike.l0 k m a b (i : Int) = some (alikeF m a b i) := by
  induction d with
  | zero =>
    intro k i hi hk
    obtain ⟨k, rfl⟩ : ∃ m, k = m + 1 := ⟨k - 1, by omega⟩
    simp only [homographref10_alike.l0]; rw [if_neg (by omega), alikeF, show m.length - i = 0 from by omega]; rfl
  | succ d ih =>
    intro k i hi hk
    obtain ⟨k, rfl⟩ : ∃ m, k = m + 1 := ⟨k - 1, by omega⟩
    have hn := ih k (i + 1) (by omega) (by omega)
    have e1 : wrap64 ((i : Int) + 1) = ((i + 1 : Nat) : Int) := by rw [w1 (by omega) (by omega)]; omega
    have e2 : alikeF m a b i = ((nextM m (i : Int) a == nextM m (i : Int) b) && alikeF m a b (i + 1)) := by
      unfold alikeF
      rw [show m.length - i = (m.length - (i + 1)) + 1 from by omega, List.range'_succ, List.all_cons]
    simp only [homographref10_alike.l0]
    rw [if_pos (by omega), rnext_f m L hL _ _ k (by omega), rnext_f m L hL _ _ k (by omega)]
    simp only [Option.bind_some]
    rw [e1, hn, e2]
    by_cases h : nextM m (i : Int) a = nextM m (i : Int) b
    · rw [if_pos h]; simp [h]
    · rw [if_neg h]; simp [h]
theorem alike_f (m : List S48) (L : Nat) (hL : Short m L) (hm : m.length ≤ 9223372036854775807) (a b : Int) (k : Nat) (hk : L + 3 + m.length ≤ k) : homographref10_alike.f k m a b = some (alikeM m a b) := by
  have h := alike_l m L hL hm a b m.length k 0 (by omega) (by omega)
  have e : alikeF m a b 0 = alikeM m a b := by unfold alikeF alikeM; rw [List.range_eq_range']; rfl
  unfold homographref10_alike.f
  rw [← e]; simpa using h

/-- Where a machine is behind bytes, from a state on. -/
def runF (m : List S48) (at_ : Int) (s : ByteArray) (i : Nat) : Int := (s.data.toList.drop i).foldl (fun x b => nextM m x (b.toNat : Int)) at_
def runM (m : List S48) (s : ByteArray) : Int := runF m (if m.length = 0 then -1 else 0) s 0
theorem bt_nat (s : ByteArray) (i : Nat) (h : i < s.size) : bt s (i : Int) = (s.data.toList[i]'(by simpa using h)).toNat := by
  simp [bt, h]; rfl
theorem run_l (m : List S48) (L : Nat) (hL : Short m L) (s : ByteArray) (hs : s.size ≤ 9223372036854775807) (d : Nat) : ∀ (k i : Nat) (at_ : Int), i + d = s.size → L + 2 + d < k → homographref07_Run.l0 k m s at_ (i : Int) = some (runF m at_ s i) := by
  induction d with
  | zero =>
    intro k i at_ hi hk
    obtain ⟨k, rfl⟩ : ∃ m, k = m + 1 := ⟨k - 1, by omega⟩
    simp only [homographref07_Run.l0]; rw [if_neg (by omega), runF, List.drop_of_length_le (by simp; omega)]; rfl
  | succ d ih =>
    intro k i at_ hi hk
    obtain ⟨k, rfl⟩ : ∃ m, k = m + 1 := ⟨k - 1, by omega⟩
    have hlt : i < s.data.toList.length := by simp; omega
    have e1 : wrap64 ((i : Int) + 1) = ((i + 1 : Nat) : Int) := by rw [w1 (by omega) (by omega)]; omega
    simp only [homographref07_Run.l0]
    rw [if_pos (by omega), if_pos (by omega), rnext_f m L hL _ _ k (by omega)]
    simp only [Option.bind_some]
    rw [e1, ih k (i + 1) _ (by omega) (by omega), bt_nat s i (by omega), runF, runF, List.drop_eq_getElem_cons hlt]; rfl
theorem run_f (m : List S48) (L : Nat) (hL : Short m L) (s : ByteArray) (hs : s.size ≤ 9223372036854775807) (k : Nat) (hk : L + 5 + s.size ≤ k) : homographref07_Run.f k m s = some (runM m s) := by
  obtain ⟨k, rfl⟩ : ∃ m, k = m + 1 := ⟨k - 1, by omega⟩
  unfold homographref07_Run.f runM
  by_cases h : m.length = 0
  · rw [if_pos (by omega), if_pos h]; simp only [homographref07_Run.j0]; exact run_l m L hL s hs s.size k 0 _ (by omega) (by omega)
  · rw [if_neg (by omega), if_neg h]; simp only [homographref07_Run.j0]; exact run_l m L hL s hs s.size k 0 _ (by omega) (by omega)

theorem ends_l (m : List S48) (hm : m.length ≤ 17592186044416) (d : Nat) : ∀ (k i : Nat) (acc : List Int), acc.length = i → i + d = m.length → d < k → homographlaw10_ends.l0 k m acc (i : Int) = some (acc ++ (m.drop i).map S48.f0) := by
  induction d with
  | zero =>
    intro k i acc ha hi hk
    obtain ⟨k, rfl⟩ : ∃ m, k = m + 1 := ⟨k - 1, by omega⟩
    simp only [homographlaw10_ends.l0]; rw [if_neg (by omega), List.drop_of_length_le (by omega)]; simp
  | succ d ih =>
    intro k i acc ha hi hk
    obtain ⟨k, rfl⟩ : ∃ m, k = m + 1 := ⟨k - 1, by omega⟩
    have hlt : i < m.length := by omega
    have e1 : wrap64 ((i : Int) + 1) = ((i + 1 : Nat) : Int) := by rw [w1 (by omega) (by omega)]; omega
    simp only [homographlaw10_ends.l0]
    rw [if_pos (by omega), if_pos (by omega), if_pos (by omega), rd48 m i hlt, e1, ih k (i + 1) _ (by simp [ha]) (by omega) (by omega), List.drop_eq_getElem_cons hlt, List.map_cons, List.append_assoc]; rfl
theorem ends_f (m : List S48) (hm : m.length ≤ 17592186044416) (k : Nat) (hk : m.length + 1 ≤ k) : homographlaw10_ends.f k m = some (m.map S48.f0) := by
  have h := ends_l m hm m.length k 0 [] rfl (by omega) (by omega)
  unfold homographlaw10_ends.f
  simpa using h


/-! Same of a machine and itself; Same of a table and itself. -/
theorem same_l1 (m : List S48) (L : Nat) (hL : Short m L) (hm : m.length ≤ 9223372036854775807) (i : Nat) (hi : i < m.length) (N : Nat)
    (hnext : ∀ k, N ≤ k → homographref07_Same.l0 k m m ((i + 1 : Nat) : Int) = some true) (d : Nat) : ∀ k j : Nat, j + d = m[i].f1.length → N + d < k → homographref07_Same.l1 k m m (i : Int) (j : Int) = some true := by
  have hl := hL.2 _ (List.getElem_mem hi)
  have hL1 := hL.1
  induction d with
  | zero =>
    intro k j hj hk
    obtain ⟨k, rfl⟩ : ∃ m, k = m + 1 := ⟨k - 1, by omega⟩
    simp only [homographref07_Same.l1]
    rw [rd48 m i hi, if_pos (by omega), if_pos (by omega), if_neg (by omega), w1 (by omega) (by omega)]
    exact hnext k (by omega)
  | succ d ih =>
    intro k j hj hk
    obtain ⟨k, rfl⟩ : ∃ m, k = m + 1 := ⟨k - 1, by omega⟩
    have hn := ih k (j + 1) (by omega) (by omega)
    simp only [homographref07_Same.l1]
    rw [rd48 m i hi, if_pos (by omega), if_pos (by omega), if_pos (by omega), if_pos (by omega), if_pos (by omega), if_pos (by omega), if_neg (by simp), w1 (by omega) (by omega)]
    exact hn
def sumL (m : List S48) (i : Nat) : Nat := ((m.drop i).map fun s => s.f1.length + 5).sum
theorem same_l0 (m : List S48) (L : Nat) (hL : Short m L) (hm : m.length ≤ 9223372036854775807) (d : Nat) : ∀ k i : Nat, i + d = m.length → sumL m i < k → homographref07_Same.l0 k m m (i : Int) = some true := by
  induction d with
  | zero =>
    intro k i hi hk
    obtain ⟨k, rfl⟩ : ∃ m, k = m + 1 := ⟨k - 1, by omega⟩
    simp only [homographref07_Same.l0]; rw [if_neg (by omega)]
  | succ d ih =>
    intro k i hi hk
    have hlt : i < m.length := by omega
    have e : sumL m i = m[i].f1.length + 5 + sumL m (i + 1) := by unfold sumL; rw [List.drop_eq_getElem_cons hlt, List.map_cons, List.sum_cons]
    obtain ⟨k, rfl⟩ : ∃ m, k = m + 2 := ⟨k - 2, by omega⟩
    have hl := hL.2 _ (List.getElem_mem hlt)
    have hL1 := hL.1
    simp only [homographref07_Same.l0]
    rw [rd48 m i hlt, if_pos (by omega), if_pos (by omega), if_pos (by omega), if_pos trivial]
    simp only [homographref07_Same.j1]
    rw [if_neg (by simp)]
    exact same_l1 m L hL hm i hlt (sumL m (i + 1) + 1) (fun k hk => ih k (i + 1) (by omega) (by omega)) m[i].f1.length k 0 (by omega) (by omega)
theorem same_f (m : List S48) (L : Nat) (hL : Short m L) (hm : m.length ≤ 9223372036854775807) : ∃ k, homographref07_Same.f k m m = some true := by
  refine ⟨sumL m 0 + 1, ?_⟩
  unfold homographref07_Same.f
  rw [if_pos rfl]
  exact same_l0 m L hL hm m.length _ 0 (by omega) (by omega)

theorem rdL6 (l : List (List Int)) (i : Nat) (h : i < l.length) : rd_L6 l (i : Int) = l[i] := by simp [rd_L6, h]
theorem tsame_l1 (m : List (List Int)) (hm : m.length ≤ 9223372036854775807) (hr : ∀ r ∈ m, r.length ≤ 9223372036854775807) (i : Nat) (hi : i < m.length) (N : Nat)
    (hnext : ∀ k, N ≤ k → homographref10_Same.l0 k m m ((i + 1 : Nat) : Int) = some true) (d : Nat) : ∀ k j : Nat, j + d = m[i].length → N + d < k → homographref10_Same.l1 k m m (i : Int) (j : Int) = some true := by
  have hl := hr _ (List.getElem_mem hi)
  induction d with
  | zero =>
    intro k j hj hk
    obtain ⟨k, rfl⟩ : ∃ m, k = m + 1 := ⟨k - 1, by omega⟩
    simp only [homographref10_Same.l1]
    rw [rdL6 m i hi, if_pos (by omega), if_pos (by omega), if_neg (by omega), w1 (by omega) (by omega)]
    exact hnext k (by omega)
  | succ d ih =>
    intro k j hj hk
    obtain ⟨k, rfl⟩ : ∃ m, k = m + 1 := ⟨k - 1, by omega⟩
    have hn := ih k (j + 1) (by omega) (by omega)
    simp only [homographref10_Same.l1]
    rw [rdL6 m i hi, if_pos (by omega), if_pos (by omega), if_pos (by omega), if_pos (by omega), if_pos (by omega), if_pos (by omega), if_pos trivial, w1 (by omega) (by omega)]
    exact hn
def tsumL (m : List (List Int)) (i : Nat) : Nat := ((m.drop i).map fun s => s.length + 5).sum
theorem tsame_l0 (m : List (List Int)) (hm : m.length ≤ 9223372036854775807) (hr : ∀ r ∈ m, r.length ≤ 9223372036854775807) (d : Nat) : ∀ k i : Nat, i + d = m.length → tsumL m i < k → homographref10_Same.l0 k m m (i : Int) = some true := by
  induction d with
  | zero =>
    intro k i hi hk
    obtain ⟨k, rfl⟩ : ∃ m, k = m + 1 := ⟨k - 1, by omega⟩
    simp only [homographref10_Same.l0]; rw [if_neg (by omega)]
  | succ d ih =>
    intro k i hi hk
    have hlt : i < m.length := by omega
    have e : tsumL m i = m[i].length + 5 + tsumL m (i + 1) := by unfold tsumL; rw [List.drop_eq_getElem_cons hlt, List.map_cons, List.sum_cons]
    obtain ⟨k, rfl⟩ : ∃ m, k = m + 2 := ⟨k - 2, by omega⟩
    simp only [homographref10_Same.l0]
    rw [if_pos (by omega), if_pos (by omega), if_pos (by omega), if_pos trivial]
    exact tsame_l1 m hm hr i hlt (tsumL m (i + 1) + 1) (fun k hk => ih k (i + 1) (by omega) (by omega)) m[i].length (k + 1) 0 (by omega) (by omega)
theorem tsame_f (m : List (List Int)) (hm : m.length ≤ 9223372036854775807) (hr : ∀ r ∈ m, r.length ≤ 9223372036854775807) : ∃ k, homographref10_Same.f k m m = some true := by
  refine ⟨tsumL m 0 + 1, ?_⟩
  unfold homographref10_Same.f
  rw [if_pos rfl]
  exact tsame_l0 m hm hr m.length _ 0 (by omega) (by omega)

/-! Check. -/
def arcOk (n : Nat) (a : S50) : Prop := a.f0 ≤ a.f1 ∧ 0 ≤ a.f2 ∧ a.f2 < (n : Int)
def pairOk (p a : S50) : Prop := p.f1 < a.f0 ∧ ¬ ((a.f0 - p.f1) % 256 = 1 ∧ a.f2 = p.f2)
/-- Arc i of a row, and the one ahead of it, are right. -/
def AtOk (n : Nat) (l : List S50) (i : Nat) : Prop := arcOk n (rd_T50 l (i : Int)) ∧ (0 < i → pairOk (rd_T50 l ((i - 1 : Nat) : Int)) (rd_T50 l (i : Int)))
def ArcsFrom (n : Nat) (l : List S50) (j : Nat) : Prop := ∀ i, j ≤ i → i < l.length → AtOk n l i
def GoodM (m : List S48) : Prop := m.length ≤ 4096 ∧ ∀ s ∈ m, ArcsFrom m.length s.f1 0
theorem check_round (m : List S48) (i : Int) (l : List S50) (hl : l.length ≤ 9223372036854775807) (j : Nat) (hj : j < l.length) (k : Nat) (Q : Option Int → Prop) (h110 : Q (some 110))
    (hgo : AtOk m.length l j → Q (homographref07_Check.l1 k m i l ((j + 1 : Nat) : Int))) : Q (homographref07_Check.l1 (k + 2) m i l (j : Int)) := by
  have e1 : wrap64 ((j : Int) + 1) = ((j + 1 : Nat) : Int) := by rw [w1 (by omega) (by omega)]; omega
  simp only [homographref07_Check.l1, homographref07_Check.j2]
  rw [if_pos (by omega), if_pos (by omega)]
  unfold AtOk arcOk at hgo
  generalize rd_T50 l (j : Int) = a at hgo ⊢
  by_cases h1 : a.f0 > a.f1
  · rw [if_pos h1, if_pos trivial]; exact h110
  rw [if_neg h1]
  by_cases h2 : a.f2 < 0
  · rw [if_pos h2, if_pos trivial]; exact h110
  rw [if_neg h2]
  by_cases h3 : a.f2 ≥ (m.length : Int)
  · rw [if_pos (decide_eq_true h3)]; exact h110
  rw [if_neg (by simpa using h3)]
  have hA : a.f0 ≤ a.f1 ∧ 0 ≤ a.f2 ∧ a.f2 < (m.length : Int) := ⟨by omega, by omega, by omega⟩
  by_cases h4 : (j : Int) > 0
  · have e2 : wrap64 ((j : Int) - 1) = ((j - 1 : Nat) : Int) := by rw [w1m (by omega) (by omega)]; omega
    rw [if_pos h4, if_pos (by omega), if_pos (by omega), e2, e1]
    have hgo2 := fun h => hgo ⟨hA, fun _ => h⟩
    generalize rd_T50 l ((j - 1 : Nat) : Int) = p at hgo2 ⊢
    rw [if_pos (by omega), if_pos (by omega)]
    by_cases h5 : a.f0 ≤ p.f1
    · rw [if_pos h5]; exact h110
    rw [if_neg h5]
    by_cases h6 : (a.f0 - p.f1) % 256 = 1
    · rw [if_pos h6]
      by_cases h7 : a.f2 = p.f2
      · rw [if_pos h7]; exact h110
      rw [if_neg h7]; exact hgo2 ⟨by omega, fun h => h7 h.2⟩
    rw [if_neg h6]; exact hgo2 ⟨by omega, fun h => h6 h.1⟩
  · rw [if_neg h4, e1]
    exact hgo ⟨hA, fun h => absurd h (by omega)⟩
theorem check_l1 (m : List S48) (L : Nat) (hL : Short m L) (hm : m.length ≤ 4096) (i : Nat) (hi : i < m.length) (l : List S50) (hl : l.length ≤ L) (N : Nat) (Q : Option Int → Prop)
    (h110 : Q (some 110)) (hnext : ∀ k, N ≤ k → ArcsFrom m.length l 0 → Q (homographref07_Check.l0 k m ((i + 1 : Nat) : Int))) (d : Nat) :
    ∀ k j : Nat, j + d = l.length → N + 2 * d < k → (∀ x, x < j → x < l.length → AtOk m.length l x) → Q (homographref07_Check.l1 k m (i : Int) l (j : Int)) := by
  have hL1 := hL.1
  induction d with
  | zero =>
    intro k j hj hk hok
    obtain ⟨k, rfl⟩ : ∃ m, k = m + 1 := ⟨k - 1, by omega⟩
    simp only [homographref07_Check.l1]
    rw [if_neg (by omega), w1 (by omega) (by omega)]
    exact hnext k (by omega) (fun x hx h => hok x (by omega) h)
  | succ d ih =>
    intro k j hj hk hok
    obtain ⟨k, rfl⟩ : ∃ m, k = m + 2 := ⟨k - 2, by omega⟩
    refine check_round m i l (by omega) j (by omega) k Q h110 (fun hA => ih k (j + 1) (by omega) (by omega) (fun x hx h => ?_))
    rcases Nat.lt_or_ge x j with hxj | hxj
    · exact hok x hxj h
    · obtain rfl : x = j := by omega
      exact hA
def csumL (m : List S48) (i : Nat) : Nat := ((m.drop i).map fun s => 2 * s.f1.length + 5).sum
theorem check_l0 (m : List S48) (L : Nat) (hL : Short m L) (hm : m.length ≤ 4096) (d : Nat) : ∀ k i : Nat, i + d = m.length → csumL m i < k → (∀ x, x < i → ∀ h : x < m.length, ArcsFrom m.length m[x].f1 0) →
    ∃ r, homographref07_Check.l0 k m (i : Int) = some r ∧ (r = 110 ∨ r = 0 ∧ GoodM m) := by
  induction d with
  | zero =>
    intro k i hi hk hok
    obtain ⟨k, rfl⟩ : ∃ m, k = m + 1 := ⟨k - 1, by omega⟩
    simp only [homographref07_Check.l0]; rw [if_neg (by omega)]
    refine ⟨0, rfl, .inr ⟨rfl, hm, fun s hs => ?_⟩⟩
    obtain ⟨x, hx, rfl⟩ := List.getElem_of_mem hs
    exact hok x (by omega) hx
  | succ d ih =>
    intro k i hi hk hok
    have hlt : i < m.length := by omega
    have e : csumL m i = 2 * m[i].f1.length + 5 + csumL m (i + 1) := by unfold csumL; rw [List.drop_eq_getElem_cons hlt, List.map_cons, List.sum_cons]
    obtain ⟨k, rfl⟩ : ∃ m, k = m + 1 := ⟨k - 1, by omega⟩
    simp only [homographref07_Check.l0]
    rw [rd48 m i hlt, if_pos (by omega), if_pos (by omega)]
    exact check_l1 m L hL hm i hlt m[i].f1 (hL.2 _ (List.getElem_mem hlt)) (csumL m (i + 1) + 1) (fun o => ∃ r, o = some r ∧ (r = 110 ∨ r = 0 ∧ GoodM m)) ⟨_, rfl, .inl rfl⟩ (fun k hk hA => ih k (i + 1) (by omega) (by omega) (fun x hx h => by
      rcases Nat.lt_or_ge x i with hxj | hxj
      · exact hok x hxj h
      · obtain rfl : x = i := by omega
        exact hA)) m[i].f1.length k 0 (by omega) (by omega) (fun x hx => by omega)
theorem check_f (m : List S48) (L : Nat) (hL : Short m L) : ∃ k r, homographref07_Check.f k m = some r ∧ (r = 110 ∨ r = 0 ∧ GoodM m) := by
  by_cases hm : m.length ≤ 4096
  · refine ⟨csumL m 0 + 1, ?_⟩
    unfold homographref07_Check.f
    rw [if_neg (by omega)]
    exact check_l0 m L hL hm m.length _ 0 (by omega) (by omega) (fun x hx => by omega)
  · refine ⟨0, 110, ?_, .inl rfl⟩
    unfold homographref07_Check.f
    rw [if_pos (by omega)]

end Go.Proofs.Ytbhdpamepmkaiaa.Plain
