/- The reference's Null walked. Own text. -/
import Derived.Test.YtimhiacjoplkeaaTrn
import Derived.Test.YtimhiacjoplkeaaApt
namespace Go.Proofs.Ytimhiacjoplkeaa
open Go.RowKit Go.Proofs.Ytimhiacjoplkeaa.P Go.Proofs.YtimhiacjoplkeaaW.PrintWords Go.Proofs.YtimhiacjoplkeaaW.PrintLast
set_option linter.unusedVariables false
set_option linter.unusedSimpArgs false
def NullOk (n : Nd) : Prop := ∀ w v, IsN w n v → Calls Try.prog 17 #[v] w fun e w' => e = .returned (.bool (nul n)) ∧ Below w.heap.size w w'
set_option maxRecDepth 20000 in
set_option maxHeartbeats 4000000 in
theorem null_mk (op s0 s1 s2 s3 mn mx : Int) (ks : List Nd) (hk : ∀ k ∈ ks, NullOk k) : NullOk (.mk op s0 s1 s2 s3 mn mx ks) := by
  intro w v hn
  obtain ⟨A, c, rfl, hc, hlen, hK⟩ := hn
  simp only [op_mk, s0_mk, s1_mk, s2_mk, s3_mk, mn_mk, mx_mk, kids_mk] at hc hlen hK ⊢
  have hKH := Lib.hid hK
  have hkH := Lib.hid hk
  have hfull := Lib.hid (List.take_length (l := ks))
  have hnul := Lib.hid (show nul (.mk op s0 s1 s2 s3 mn mx ks) = if op = 1 ∨ op = 4 then nulA ks else if op = 2 then nulO ks else if op = 3 then decide (mn = 0) || nulO ks else if op = 5 then !nulO ks else false from by unfold nul; rfl)
  clear hK hk
  generalize nul (.mk op s0 s1 s2 s3 mn mx ks) = R at *
  show Calls Try.prog 17 #[.agg (boxC op s0 s1 s2 s3 mn mx (.slice A ks.length c))] w _
  go_enter Try.func17, Try.ntmps17
  have hX := Lib.hid (Blk.new w 28 (boxC op s0 s1 s2 s3 mn mx (.slice A ks.length c)))
  have hB := Lib.hid (below_alloc (Below.refl w.heap.size w) (.cells (boxC op s0 s1 s2 s3 mn mx (.slice A ks.length c)) 28))
  go_wp2
  go_loopw [3, 4, 5] (fun aa oo ii wr => ∃ i : Nat, i ≤ ks.length ∧ ii = .int .i64 i ∧ aa = .bool (nulA (ks.take i)) ∧ oo = .bool (nulO (ks.take i)) ∧ Hid (Below w.heap.size w wr) ∧ Hid (Blk wr w.heap.size 28 (boxC op s0 s1 s2 s3 mn mx (.slice A ks.length c)))) (fun _ _ ii _ => ks.length - (intOf ii).toNat)
  case atStart => exact ⟨0, by omega, rfl, by rw [List.take_zero]; unfold nulA; rfl, by rw [List.take_zero]; unfold nulO; rfl, hB, hX⟩
  case round =>
    clear hB hX
    obtain ⟨i, hi, rfl, rfl, rfl, hB, hX⟩ := hrel
    obtain ⟨wp, rfl⟩ : ∃ wp : World, wp = wr := ⟨_, rfl⟩
    have hc7 : wp.cell? ⟨w.heap.size, 7, none⟩ = some (.slice A ks.length c) := hX.out.cell 7
    by_cases hlj : i < ks.length
    · have hd2 : decide ((i : Int) < (ks.length : Int)) = true := decide_eq_true (by omega)
      have hj0 : (0 : Int) ≤ (i : Int) := by omega
      have hj1 : (i : Int) < (ks.length : Int) := by omega
      obtain ⟨ad, A', c', hA, hN, q0, q1, q2, q3, q4, q5, q6, q7⟩ := kid_at hKH.out i hlj
      subst hA
      have hNp := Lib.hid (hN.below hB.out)
      replace q0 := pw_cell_below hB.out q0
      replace q1 := pw_cell_below hB.out q1
      replace q2 := pw_cell_below hB.out q2
      replace q3 := pw_cell_below hB.out q3
      replace q4 := pw_cell_below hB.out q4
      replace q5 := pw_cell_below hB.out q5
      replace q6 := pw_cell_below hB.out q6
      replace q7 := pw_cell_below hB.out q7
      have hnk := Lib.hid (hkH.out ks[i] (List.getElem_mem hlj))
      have htk : ks.take (i + 1) = ks.take i ++ [ks[i]] := List.take_succ_eq_append_getElem hlj
      have hnA := Lib.hid (show nulA (ks.take (i + 1)) = (nulA (ks.take i) && nul ks[i]) by rw [htk, nulA_all, nulA_all, List.all_append]; simp)
      have hnO := Lib.hid (show nulO (ks.take (i + 1)) = (nulO (ks.take i) || nul ks[i]) by rw [htk, nulO_any, nulO_any, List.any_append]; simp)
      clear hN htk
      generalize ks[i] = k at *
      obtain ⟨m, hm⟩ : ∃ m, m = k.kids.length := ⟨_, rfl⟩
      rw [← hm] at hNp q7
      clear hm
      have hcall := Lib.hid (hnk.out _ _ hNp.out)
      generalize nul k = pk at *
      generalize nulA (ks.take i) = pa at *
      generalize nulO (ks.take i) = po at *
      clear hNp hnk
      cases pk <;> cases pa <;> cases po
      all_goals (go_wp2_with (go_at_call 17; refine (hcall.out).mono ?_; rintro e w6 ⟨rfl, hbb⟩; have hB6 := Lib.hid (below_then hB.out hB.out.size hbb); have hX6 := Lib.hid (hX.out.below hbb hX.out.lt); clear hbb hc7 q0 q1 q2 q3 q4 q5 q6 q7))
      all_goals go_roundw
      all_goals (first | (exact ⟨i + 1, by omega, by go_num, by rw [hnA.out]; rfl, by rw [hnO.out]; rfl, hB6, hX6⟩) | (simp [intOf]; omega))
    · have hd2 : decide ((i : Int) < (ks.length : Int)) = false := decide_eq_false (by omega)
      have hnd : ¬ i < ks.length := hlj
      have hil : i = ks.length := by omega
      have hnA := Lib.hid (show nulA (ks.take i) = nulA ks by rw [hil, hfull.out])
      have hnO := Lib.hid (show nulO (ks.take i) = nulO ks by rw [hil, hfull.out])
      have hR := hnul.out
      rw [← hnA.out, ← hnO.out] at hR
      have hq0 : wp.cell? ⟨w.heap.size, 0, none⟩ = some (.int .i64 op) := hX.out.cell 0
      have hq5 : wp.cell? ⟨w.heap.size, 5, none⟩ = some (.int .i64 mn) := hX.out.cell 5
      clear hil hnul hnA hnO
      generalize nulA (ks.take i) = pa at *
      generalize nulO (ks.take i) = po at *
      have hRH := Lib.hid hR
      clear hR
      by_cases o1 : op = 1
      · have d1 : decide (op = 1) = true := decide_eq_true o1
        have b1 : (op == 1) = true := beq_iff_eq.2 o1
        have hR' : R = pa := by rw [hRH.out, if_pos (.inl o1)]
        subst hR'
        have o1H := Lib.hid o1
        clear o1
        go_wp2
        go_ret
        exact ⟨rfl, hB.out⟩
      have d1 : decide (op = 1) = false := decide_eq_false o1
      have b1 : (op == 1) = false := beq_false_of_ne o1
      by_cases o4 : op = 4
      · have d4 : decide (op = 4) = true := decide_eq_true o4
        have b4 : (op == 4) = true := beq_iff_eq.2 o4
        have hR' : R = pa := by rw [hRH.out, if_pos (.inr o4)]
        subst hR'
        have o4H := Lib.hid o4
        clear o4
        go_wp2
        go_ret
        exact ⟨rfl, hB.out⟩
      have d4 : decide (op = 4) = false := decide_eq_false o4
      have b4 : (op == 4) = false := beq_false_of_ne o4
      have hR := hRH.out
      rw [if_neg (fun h => h.elim o1 o4)] at hR
      by_cases o2 : op = 2
      · have d2 : decide (op = 2) = true := decide_eq_true o2
        have b2 : (op == 2) = true := beq_iff_eq.2 o2
        rw [if_pos o2] at hR
        subst hR
        have o2H := Lib.hid o2
        clear o2
        go_wp2
        go_ret
        exact ⟨rfl, hB.out⟩
      have d2 : decide (op = 2) = false := decide_eq_false o2
      have b2 : (op == 2) = false := beq_false_of_ne o2
      rw [if_neg o2] at hR
      by_cases o3 : op = 3
      · have d3 : decide (op = 3) = true := decide_eq_true o3
        have b3 : (op == 3) = true := beq_iff_eq.2 o3
        rw [if_pos o3] at hR
        have o3H := Lib.hid o3
        clear o3
        by_cases m0 : mn = 0
        · have dm : decide (mn = 0) = true := decide_eq_true m0
          have bm : (mn == 0) = true := beq_iff_eq.2 m0
          rw [dm, Bool.true_or] at hR
          subst hR
          have m0H := Lib.hid m0
          clear m0
          go_wp2
          go_ret
          exact ⟨rfl, hB.out⟩
        · have dm : decide (mn = 0) = false := decide_eq_false m0
          have bm : (mn == 0) = false := beq_false_of_ne m0
          rw [dm, Bool.false_or] at hR
          subst hR
          go_wp2
          go_ret
          exact ⟨rfl, hB.out⟩
      have d3 : decide (op = 3) = false := decide_eq_false o3
      have b3 : (op == 3) = false := beq_false_of_ne o3
      rw [if_neg o3] at hR
      by_cases o5 : op = 5
      · have d5 : decide (op = 5) = true := decide_eq_true o5
        have b5 : (op == 5) = true := beq_iff_eq.2 o5
        rw [if_pos o5] at hR
        subst hR
        have o5H := Lib.hid o5
        clear o5
        go_wp2
        go_ret
        exact ⟨rfl, hB.out⟩
      have d5 : decide (op = 5) = false := decide_eq_false o5
      have b5 : (op == 5) = false := beq_false_of_ne o5
      rw [if_neg o5] at hR
      subst hR
      go_wp2
      go_ret
      exact ⟨rfl, hB.out⟩
mutual
theorem null_c : ∀ n : Nd, NullOk n
  | .mk op s0 s1 s2 s3 mn mx ks => null_mk op s0 s1 s2 s3 mn mx ks (nulls_c ks)
theorem nulls_c : ∀ ks : List Nd, ∀ k ∈ ks, NullOk k
  | [], _, h => by cases h
  | k :: ks, x, h => by
    rcases List.mem_cons.1 h with e | h
    · exact e ▸ null_c k
    · exact nulls_c ks x h
end
end Go.Proofs.Ytimhiacjoplkeaa
