/- The reference's Check: plain. Own text. -/
import Derived.Test.YtokdggmobhnnpaaFa
import Derived.Test.YtokdggmobhnnpaaP5
namespace Go.Proofs.Ytokdggmobhnnpaa.Enc
open Go.RowKit Go.Proofs.Ytokdggmobhnnpaa.P Go.Proofs.YtokdggmobhnnpaaW.PrintWords
set_option linter.unusedVariables false
theorem fits_tests (p a : S59) (hp : 0 ≤ p.f1 ∧ p.f1 ≤ 255) (ha : 0 ≤ a.f0 ∧ a.f0 ≤ 255) (X : Option Int) :
    (if a.f0 ≤ p.f1 then some 110 else if (a.f0 - p.f1) % 256 = 1 then (if a.f2 = p.f2 then some 110 else X) else X) = if fitsB p a = true then X else some 110 := by
  by_cases h1 : a.f0 ≤ p.f1
  · rw [if_pos h1, if_neg]
    simp [fitsB]; intro; omega
  · rw [if_neg h1]
    by_cases h2 : a.f0 = p.f1 + 1
    · rw [if_pos (by omega)]
      by_cases h3 : a.f2 = p.f2
      · rw [if_pos h3, if_neg]
        simp [fitsB, h2, h3]
      · rw [if_neg h3, if_pos]
        simp [fitsB, h2, h3]; omega
    · rw [if_neg (by omega), if_pos]
      simp [fitsB, h2]; omega
theorem rcheck_l1 (m : List S57) (hm : m.length ≤ 4096) (i : Int) (l : List S59) (hl : l.length ≤ 9223372036854775807) (hB : ∀ a ∈ l, (0 ≤ a.f0 ∧ a.f0 ≤ 255) ∧ (0 ≤ a.f1 ∧ a.f1 ≤ 255)) (N : Nat) (R : Option Int)
    (hnext : ∀ k, N ≤ k → homographref07_Check.l0 k m (wrap64 (i + 1)) = R) (d : Nat) : ∀ k j : Nat, j + d = l.length → N + 2 * d < k →
    homographref07_Check.l1 k m i l (j : Int) = if arcsOk m.length (pvAt l j) (l.drop j) = true then R else some 110 := by
  induction d with
  | zero =>
    intro k j hj hk
    obtain ⟨k, rfl⟩ : ∃ m, k = m + 1 := ⟨k - 1, by omega⟩
    simp only [homographref07_Check.l1]
    rw [if_neg (by omega), List.drop_of_length_le (by omega), hnext k (by omega), if_pos (by rfl)]
  | succ d ih =>
    intro k j hj hk
    obtain ⟨k, rfl⟩ : ∃ m, k = m + 2 := ⟨k - 2, by omega⟩
    have hlt : j < l.length := by omega
    have e1 : wrap64 ((j : Int) + 1) = ((j + 1 : Nat) : Int) := by rw [w1 (by omega) (by omega)]; omega
    have hI := ih k (j + 1) (by omega) (by omega)
    rw [pvAt_succ l j hlt] at hI
    have hba := hB l[j] (List.getElem_mem hlt)
    simp only [homographref07_Check.l1, homographref07_Check.j2]
    rw [if_pos (by omega), if_pos (by omega), rd59 l j hlt, List.drop_eq_getElem_cons hlt, arcsOk_cons]
    by_cases h1 : l[j].f0 > l[j].f1
    · rw [if_pos h1, if_pos trivial, if_neg]
      simp; intro; omega
    rw [if_neg h1]
    by_cases h2 : l[j].f2 < 0
    · rw [if_pos h2, if_pos trivial, if_neg]
      simp; intro _ _; omega
    rw [if_neg h2]
    by_cases h3 : l[j].f2 ≥ (m.length : Int)
    · rw [decide_eq_true h3, if_pos rfl, if_neg]
      simp; intro _ _ _; omega
    rw [decide_eq_false h3, if_neg (by simp)]
    have hA : (decide (l[j].f0 ≤ l[j].f1) && decide (0 ≤ l[j].f2) && decide (l[j].f2 < (m.length : Int))) = true := by simp; omega
    rw [hA, Bool.true_and]
    by_cases h4 : (j : Int) > 0
    · have e2 : wrap64 ((j : Int) - 1) = ((j - 1 : Nat) : Int) := by rw [w1m (by omega) (by omega)]; omega
      have hlt2 : j - 1 < l.length := by omega
      have ep : pvAt l j = some l[j - 1] := by unfold pvAt; rw [if_neg (by omega), List.getElem?_eq_getElem hlt2]
      have hbp := hB l[j - 1] (List.getElem_mem hlt2)
      rw [if_pos h4, if_pos (by omega), if_pos (by omega), e2, if_pos (by omega), if_pos (by omega), rd59 l (j - 1) hlt2, fits_tests _ _ hbp.2 hba.1, ep, e1, hI]
      by_cases hf : fitsB l[j - 1] l[j] = true
      · rw [if_pos hf]; simp only [hf, Bool.true_and]
      · rw [if_neg hf]; simp only [Bool.eq_false_iff.2 hf, Bool.false_and, Bool.false_eq_true, if_false]
    · obtain rfl : j = 0 := by omega
      rw [if_neg h4, e1, hI]
      simp [pvAt]
def rsumL (m : List S57) (i : Nat) : Nat := ((m.drop i).map fun s => 2 * s.f1.length + 3).sum
theorem rcheck_l0 (m : List S57) (hm : m.length ≤ 4096) (hB : ByM m) (d : Nat) : ∀ k i : Nat, i + d = m.length → rsumL m i < k →
    homographref07_Check.l0 k m (i : Int) = some (if (m.drop i).all (fun s => arcsOk m.length none s.f1) = true then 0 else 110) := by
  induction d with
  | zero =>
    intro k i hi hk
    obtain ⟨k, rfl⟩ : ∃ m, k = m + 1 := ⟨k - 1, by omega⟩
    simp only [homographref07_Check.l0]
    rw [if_neg (by omega), List.drop_of_length_le (by omega)]; rfl
  | succ d ih =>
    intro k i hi hk
    have hlt : i < m.length := by omega
    have e : rsumL m i = 2 * m[i].f1.length + 3 + rsumL m (i + 1) := by unfold rsumL; rw [List.drop_eq_getElem_cons hlt, List.map_cons, List.sum_cons]
    obtain ⟨k, rfl⟩ : ∃ m, k = m + 1 := ⟨k - 1, by omega⟩
    have e1 : wrap64 ((i : Int) + 1) = ((i + 1 : Nat) : Int) := by rw [w1 (by omega) (by omega)]; omega
    obtain ⟨hl, hb⟩ := hB _ (List.getElem_mem hlt)
    simp only [homographref07_Check.l0]
    rw [if_pos (by omega), if_pos (by omega), rd57 m i hlt]
    have h1 := rcheck_l1 m hm (i : Int) m[i].f1 hl hb (rsumL m (i + 1) + 1) _ (fun k hk => by rw [e1]; exact ih k (i + 1) (by omega) (by omega)) m[i].f1.length k 0 (by omega) (by omega)
    rw [show ((0 : Nat) : Int) = 0 from rfl] at h1
    rw [h1]
    rw [List.drop_zero, List.drop_eq_getElem_cons hlt, List.all_cons]
    simp only [pvAt, if_true]
    cases arcsOk m.length none m[i].f1 with
    | true => simp
    | false => simp
theorem rcheck_f (m : List S57) (hB : ByM m) : ∃ K, ∀ k, K ≤ k → homographref07_Check.f k m = some (if goodB m = true then 0 else 110) := by
  by_cases hm : m.length ≤ 4096
  · refine ⟨rsumL m 0 + 1, fun k hk => ?_⟩
    unfold homographref07_Check.f
    rw [if_neg (by omega)]
    have := rcheck_l0 m hm hB m.length k 0 (by omega) (by omega)
    rw [List.drop_zero] at this
    rw [show (0 : Int) = ((0 : Nat) : Int) from rfl, this]
    simp [goodB, hm]
  · refine ⟨0, fun k hk => ?_⟩
    unfold homographref07_Check.f
    rw [if_pos (by omega)]
    simp [goodB, hm]
end Go.Proofs.Ytokdggmobhnnpaa.Enc
