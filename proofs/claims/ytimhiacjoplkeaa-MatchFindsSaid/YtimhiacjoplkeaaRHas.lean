/- The reference's Has and either walked. Own text. -/
import Derived.Test.YtimhiacjoplkeaaMkA
import Derived.WalkSmall
namespace Go.Proofs.Ytimhiacjoplkeaa
open Go.RowKit Go.Proofs.Ytimhiacjoplkeaa.P Go.Proofs.YtimhiacjoplkeaaW.PrintWords Go.Proofs.YtimhiacjoplkeaaW.PrintLast
set_option linter.unusedVariables false
set_option linter.unusedSimpArgs false
theorem bit_eq (x : Int) (hx : U64 x) (k : Nat) (hk : k < 64) : (Go.bits .and .u64 (x / 2 ^ k) 1 == 1) = (Go.bits .and .u64 x (IntKind.u64.wrap (2 ^ k)) != 0) := by
  unfold U64 at hx
  obtain ⟨a, rfl⟩ := Int.eq_ofNat_of_zero_le hx.1
  have ha : a < 2 ^ 64 := by omega
  have hp : (2 ^ k : Nat) < 2 ^ 64 := Nat.pow_lt_pow_right (by decide) hk
  have e1 : ((a : Int) / 2 ^ k) = ((a / 2 ^ k : Nat) : Int) := by rw [Int.natCast_ediv, Int.natCast_pow]; rfl
  have e2 : IntKind.u64.wrap ((2 : Int) ^ k) = ((2 ^ k : Nat) : Int) := by
    have e3 : ((2 : Int) ^ k) = ((2 ^ k : Nat) : Int) := by rw [Int.natCast_pow]; rfl
    rw [e3, IntKind.wrap_u64]
    clear e1 e3
    generalize (2 ^ k : Nat) = p at *
    omega
  have hd : a / 2 ^ k < 2 ^ 64 := Nat.lt_of_le_of_lt (Nat.div_le_self _ _) ha
  rw [e1, e2, bits_and_u64_nat a (2 ^ k) ha hp]
  have h1 := bits_and_u64_nat (a / 2 ^ k) 1 hd (by decide)
  rw [show ((1 : Nat) : Int) = 1 from rfl] at h1
  rw [h1, Nat.and_one_is_mod]
  have ht : a.testBit k = decide (a / 2 ^ k % 2 = 1) := Nat.testBit_eq_decide_div_mod_eq
  have hz : (a &&& 2 ^ k) ≠ 0 ↔ a.testBit k = true := by
    constructor
    · intro hne
      cases hb : a.testBit k with
      | true => rfl
      | false =>
        refine absurd (Nat.eq_of_testBit_eq fun i => ?_) hne
        rw [Nat.testBit_and, Nat.testBit_two_pow, Nat.zero_testBit]
        by_cases e : k = i
        · subst e; rw [hb]; rfl
        · simp [e]
    · intro hb e
      have := congrArg (fun q => q.testBit k) e
      simp [hb] at this
  apply bool_ext
  rw [beq_iff_eq, bne_iff_ne]
  rw [ht] at hz
  rw [decide_eq_true_iff] at hz
  constructor
  · intro h
    have := hz.2 (by omega)
    omega
  · intro h
    have := hz.1 (by omega)
    omega
set_option maxRecDepth 20000 in
theorem has_r (s0 s1 s2 s3 : Int) (h0 : U64 s0) (h1 : U64 s1) (h2 : U64 s2) (h3 : U64 s3) (b : Nat) (hb : b < 256) (w : World) :
    Calls Try.prog 40 #[setV s0 s1 s2 s3, .int .u8 (b : Int)] w fun e w' => e = .returned (.bool (hasS s0 s1 s2 s3 b)) ∧ Below w.heap.size w w' := by
  unfold hasS selS
  have hm : b % 64 < 64 := Nat.mod_lt _ (by decide)
  have t0 := Lib.hid (bit_eq s0 h0 _ hm)
  have t1 := Lib.hid (bit_eq s1 h1 _ hm)
  have t2 := Lib.hid (bit_eq s2 h2 _ hm)
  have t3 := Lib.hid (bit_eq s3 h3 _ hm)
  clear hm h0 h1 h2 h3
  rcases (by omega : b / 64 = 0 ∨ b / 64 = 1 ∨ b / 64 = 2 ∨ b / 64 = 3) with hk | hk | hk | hk
  · have hk2 : (b : Int) / 64 = 0 := by omega
    rw [hk]
    go_enter Try.func40, Try.ntmps40
    go_wp2
    go_ret
    exact ⟨congrArg Ending.returned (congrArg Value.bool t0.out), below_alloc (Below.refl _ _) _⟩
  · have hk2 : (b : Int) / 64 = 1 := by omega
    rw [hk]
    go_enter Try.func40, Try.ntmps40
    go_wp2
    go_ret
    exact ⟨congrArg Ending.returned (congrArg Value.bool t1.out), below_alloc (Below.refl _ _) _⟩
  · have hk2 : (b : Int) / 64 = 2 := by omega
    rw [hk]
    go_enter Try.func40, Try.ntmps40
    go_wp2
    go_ret
    exact ⟨congrArg Ending.returned (congrArg Value.bool t2.out), below_alloc (Below.refl _ _) _⟩
  · have hk2 : (b : Int) / 64 = 3 := by omega
    rw [hk]
    go_enter Try.func40, Try.ntmps40
    go_wp2
    go_ret
    exact ⟨congrArg Ending.returned (congrArg Value.bool t3.out), below_alloc (Below.refl _ _) _⟩
set_option maxRecDepth 20000 in
set_option maxHeartbeats 2000000 in
theorem either_c (N : Nat) (hN : N ≤ 1000000) (g h : Nat) (P Q : Nat → Bool) (w : World) (hg : Blk w g 4 (arB N P)) (hh : Blk w h 4 (arB N Q)) :
    Calls Try.prog 41 #[pv N g, pv N h] w fun e w' => ∃ k, e = .returned (pv N k) ∧ w.heap.size ≤ k ∧ Blk w' k 4 (arB N (orP P Q)) ∧ Below w.heap.size w w' := by
  have hgH := Lib.hid hg
  have hhH := Lib.hid hh
  clear hg hh
  go_enter Try.func41, Try.ntmps41
  go_wp2_with (refine wpList_make_exact rfl (.tmp 8) (.tmp 8) 55 rfl 4 (.bool false) 1 Try.underlying55 info4 (N + 1) _ rfl rfl (by simp) (by omega) (by omega) ?_)
  have hK0 : Hid (Blk (w.alloc (.cells (madeCells #[.bool false] (N + 1)) 4)) w.heap.size 4 (arB N (fun j => decide (j < 0) && (orP P Q j)))) := Lib.hid ((by
    have hb : Blk (w.alloc (.cells (madeCells #[.bool false] (N + 1)) 4)) w.heap.size 4 (madeCells #[.bool false] (N + 1)) := Blk.new w 4 _
    rw [arB_made] at hb ⊢
    exact hb.eqB (fun j _ => by simp)))
  have hB0 := Lib.hid (below_alloc (Below.refl w.heap.size w) (.cells (madeCells #[.bool false] (N + 1)) 4))
  have hgl := hgH.out.lt
  have hhl := hhH.out.lt
  generalize w.alloc (.cells (madeCells #[.bool false] (N + 1)) 4) = W0 at *
  go_loopw [6] (fun ii wr => ∃ i : Nat, i ≤ N + 1 ∧ ii = .int .i64 i ∧ Hid (Blk wr w.heap.size 4 (arB N (fun j => decide (j < i) && (orP P Q j)))) ∧ Hid (Below w.heap.size w wr)) (fun ii _ => N + 1 - (intOf ii).toNat)
  case atStart => exact ⟨0, by omega, rfl, hK0, hB0⟩
  case round =>
    clear hK0 hB0
    obtain ⟨i, hi, rfl, hK, hB⟩ := hrel
    by_cases hlt : i < N + 1
    · have hd : decide ((i : Int) < ((N + 1 : Nat) : Int)) = true := decide_eq_true (by omega)
      have hd0 : (0 : Int) ≤ (i : Int) := by omega
      have hd1 : (i : Int) < ((N + 1 : Nat) : Int) := by omega
      have cg := (hgH.out.below hB.out hgl).cellB i (by omega)
      have ch := (hhH.out.below hB.out hhl).cellB i (by omega)
      have ck := hK.out.cellB i (by omega)
      have fk := hK.out.frozen i
      have hset := Lib.hid (fun (x : Bool) (hx : x = (P i || Q i)) => (hK.out.setB i x (by omega)).eqB (Q := fun j => decide (j < i + 1) && (orP P Q j)) (fun j _ => by
        simp only [upd]
        by_cases e : j = i
        · subst e; rw [if_pos rfl, hx]; simp [orP]
        · rw [if_neg e]
          by_cases h1 : j < i
          · simp [h1, show j < i + 1 by omega]
          · simp [h1, show ¬ j < i + 1 by omega]))
      have hBs := Lib.hid (fun (x : Bool) => hB.out.setCell (p := ⟨w.heap.size, i, none⟩) (Nat.le_refl _) (.bool x))
      generalize P i = p at *
      generalize Q i = q at *
      cases p <;> cases q
      all_goals go_wp2
      all_goals go_roundw
      all_goals (first | (exact ⟨i + 1, by omega, by go_num, Lib.hid (hset.out _ rfl), Lib.hid (hBs.out _)⟩) | (simp [intOf]; omega))
    · have hd : decide ((i : Int) < ((N + 1 : Nat) : Int)) = false := decide_eq_false (by omega)
      have hE := Lib.hid (hK.out.eqB (Q := orP P Q) (fun j hj => by simp [show j < i by omega]))
      clear hK
      go_wp2
      go_ret
      exact ⟨_, rfl, Nat.le_refl _, hE.out, hB.out⟩
end Go.Proofs.Ytimhiacjoplkeaa
