/- Plain laws: whole, Not, Alt, And, Rep. Own text. -/
import Derived.Test.YtimhiacjoplkeaaLng
namespace Go.Proofs.Ytimhiacjoplkeaa
set_option linter.unusedVariables false
set_option linter.unusedSimpArgs false
theorem trues_succ (N : Nat) (P : Nat → Bool) : trues N P = (List.range N).filter P ++ (if P N = true then [N] else []) := by
  unfold trues
  rw [List.range_succ, List.filter_append]
  congr 1
  cases h : P N <;> simp [List.filter_cons, h]
theorem wholeP_eq (s : ByteArray) (n : Nd) : wholeP s n = stp s n (dlt 0) s.size := by
  have he : endsP s n 0 = trues s.size (stp s n (dlt 0)) := by
    unfold endsP
    rw [if_neg (fun h => by omega)]
    rfl
  unfold wholeP longP
  rw [he]
  generalize stp s n (dlt 0) = P
  cases hp : P s.size with
  | true =>
    have hl : lastP (trues s.size P) = ((s.size : Int), true) := by
      unfold lastP
      rw [trues_succ, if_pos hp, List.getLast?_concat]
    rw [hl]
    simp
  | false =>
    unfold lastP
    cases hl : (trues s.size P).getLast? with
    | none => rfl
    | some j =>
      have hm := List.mem_of_getLast? hl
      obtain ⟨h1, h2⟩ := mem_trues.1 hm
      have hj : j ≠ s.size := fun e => by rw [e, hp] at h2; cases h2
      have hji : ¬ ((j : Int) = (s.size : Int)) := by omega
      show (true && ((j : Int) == (s.size : Int))) = false
      rw [Bool.true_and]
      exact beq_false_of_ne hji
theorem any_dlt (a j : Nat) (g : Nat → Bool) : (List.range (j + 1)).any (fun i => dlt a i && g i) = (decide (a ≤ j) && g a) := by
  apply bool_ext
  rw [List.any_eq_true, Bool.and_eq_true, decide_eq_true_iff]
  constructor
  · rintro ⟨i, hi, h⟩
    rw [Bool.and_eq_true] at h
    have e := dlt_iff.1 h.1
    subst e
    exact ⟨by have := List.mem_range.1 hi; omega, h.2⟩
  · rintro ⟨h1, h2⟩
    exact ⟨a, List.mem_range.2 (by omega), by rw [Bool.and_eq_true]; exact ⟨dlt_iff.2 rfl, h2⟩⟩
theorem stp_op1 (s : ByteArray) (s0 s1 s2 s3 mn mx : Int) (ks : List Nd) : stp s (.mk 1 s0 s1 s2 s3 mn mx ks) = stpC s ks := by
  conv => lhs; unfold stp
  simp
theorem stp_op2 (s : ByteArray) (s0 s1 s2 s3 mn mx : Int) (ks : List Nd) : stp s (.mk 2 s0 s1 s2 s3 mn mx ks) = stpA s ks := by
  conv => lhs; unfold stp
  simp
theorem stp_op3 (s : ByteArray) (s0 s1 s2 s3 mn mx : Int) (ks : List Nd) : stp s (.mk 3 s0 s1 s2 s3 mn mx ks) = stpR s mn mx ks := by
  conv => lhs; unfold stp
  simp
theorem stp_op4 (s : ByteArray) (s0 s1 s2 s3 mn mx : Int) (ks : List Nd) (a j : Nat) : stp s (.mk 4 s0 s1 s2 s3 mn mx ks) (dlt a) j = (decide (a ≤ j) && (decide (j ≤ s.size) && stpX s false ks a j)) := by
  conv => lhs; unfold stp
  simp [any_dlt]
theorem stp_op5 (s : ByteArray) (s0 s1 s2 s3 mn mx : Int) (ks : List Nd) (a j : Nat) : stp s (.mk 5 s0 s1 s2 s3 mn mx ks) (dlt a) j = (decide (a ≤ j) && (decide (j ≤ s.size) && stpX s true ks a j)) := by
  conv => lhs; unfold stp
  simp [any_dlt]
theorem whole_not (s : ByteArray) (s0 s1 s2 s3 mn mx : Int) (x : Nd) : wholeP s (.mk 5 s0 s1 s2 s3 mn mx [x]) = !wholeP s x := by
  rw [wholeP_eq, wholeP_eq, stp_op5]
  unfold stpX stpX
  simp
theorem whole_alt (s : ByteArray) (s0 s1 s2 s3 mn mx : Int) (x y : Nd) : wholeP s (.mk 2 s0 s1 s2 s3 mn mx [x, y]) = (wholeP s x || wholeP s y) := by
  rw [wholeP_eq, wholeP_eq, wholeP_eq, stp_op2]
  unfold stpA stpA stpA
  simp
theorem whole_and (s : ByteArray) (s0 s1 s2 s3 mn mx : Int) (x y : Nd) : wholeP s (.mk 4 s0 s1 s2 s3 mn mx [x, y]) = (wholeP s x && wholeP s y) := by
  rw [wholeP_eq, wholeP_eq, wholeP_eq, stp_op4]
  unfold stpX stpX stpX
  simp
theorem whole_rep1 (s : ByteArray) (a0 a1 a2 a3 b0 b1 b2 b3 bn bx c0 c1 c2 c3 : Int) (n : Nd) : wholeP s (.mk 3 a0 a1 a2 a3 1 (-1) [n]) = wholeP s (.mk 1 b0 b1 b2 b3 bn bx [n, .mk 3 c0 c1 c2 c3 0 (-1) [n]]) := by
  rw [wholeP_eq, wholeP_eq, stp_op3, stp_op1]
  unfold stpC stpC stpC stpR
  rw [stp_op3]
  unfold stpR
  rfl
theorem whole_rep2 (s : ByteArray) (a0 a1 a2 a3 b0 b1 b2 b3 bn bx : Int) (n : Nd) : wholeP s (.mk 3 a0 a1 a2 a3 2 2 [n]) = wholeP s (.mk 1 b0 b1 b2 b3 bn bx [n, n]) := by
  rw [wholeP_eq, wholeP_eq, stp_op3, stp_op1]
  unfold stpC stpC stpC stpR
  rfl
theorem whole_rep01 (s : ByteArray) (a0 a1 a2 a3 : Int) (n : Nd) : wholeP s (.mk 3 a0 a1 a2 a3 0 1 [n]) = (decide (s.size = 0) || wholeP s n) := by
  rw [wholeP_eq, wholeP_eq, stp_op3]
  unfold stpR
  show ((dlt 0) s.size || (stp s n (dlt 0)) s.size) = _
  congr 1
theorem whole_any (a0 a1 a2 a3 : Int) (n : Nd) (s : ByteArray) (hs : s.size = 0) : wholeP s (.mk 3 a0 a1 a2 a3 0 (-1) [n]) = true := by
  rw [wholeP_eq, stp_op3, hs]
  unfold stpR
  rw [hs]
  show ((dlt 0) 0 || upTo (stp s n) 0 (stp s n (dlt 0)) 0) = true
  simp [dlt]
end Go.Proofs.Ytimhiacjoplkeaa
