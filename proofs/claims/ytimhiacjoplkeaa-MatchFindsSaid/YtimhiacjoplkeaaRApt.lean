/- The reference's apart walked. Own text (printed by wip/c04/gen_rap.py). -/
import Derived.Test.YtimhiacjoplkeaaROft
namespace Go.Proofs.Ytimhiacjoplkeaa
open Go.RowKit Go.Proofs.Ytimhiacjoplkeaa.P Go.Proofs.YtimhiacjoplkeaaW.PrintWords Go.Proofs.YtimhiacjoplkeaaW.PrintLast
set_option linter.unusedVariables false
set_option linter.unusedSimpArgs false
set_option maxRecDepth 20000 in
set_option maxHeartbeats 4000000 in
theorem apart_r (s : ByteArray) (hs : s.size ≤ 1000000) (op s0 s1 s2 s3 mn mx : Int) (ks : List Nd) (hk : ∀ k ∈ ks, FromOk s k) (h5 : op = 5 → ks.length ≤ 1) (w : World) (v : Value) (at_ : Nat) (hat : at_ ≤ s.size)
    (hn : IsN w (.mk op s0 s1 s2 s3 mn mx ks) v) :
    Calls Try.prog 43 #[v, .string s, .int .i64 (at_ : Int)] w fun e w' => ∃ g, e = .returned (pv s.size g) ∧ w.heap.size ≤ g ∧ Blk w' g 4 (arB s.size (apP s (decide (op = 5)) ks at_)) ∧ Below w.heap.size w w' := by
  obtain ⟨A, c, rfl, hc, hlen, hK⟩ := hn
  simp only [op_mk, s0_mk, s1_mk, s2_mk, s3_mk, mn_mk, mx_mk, kids_mk] at hc hlen hK ⊢
  have hKH := Lib.hid hK
  have hkH := Lib.hid hk
  have hbdd : ∀ i, dlt at_ i = true → i ≤ s.size := fun i h => by rw [dlt_iff.1 h]; exact hat
  have hbddH := Lib.hid hbdd
  have hfull := Lib.hid (List.take_length (l := ks))
  have h5H := Lib.hid h5
  clear hK hk hbdd h5
  show Calls Try.prog 43 #[.agg (boxC op s0 s1 s2 s3 mn mx (.slice A ks.length c)), .string s, .int .i64 (at_ : Int)] w _
  go_enter Try.func43, Try.ntmps43
  go_upto_region 2 with (refine wpList_make_exact rfl (.tmp 15) (.tmp 15) 55 rfl 4 (.bool false) 1 Try.underlying55 info4 (s.size + 1) _ rfl rfl (by simp) (by omega) (by omega) ?_)
  have hX1 := Lib.hid ((Blk.new w 28 (boxC op s0 s1 s2 s3 mn mx (.slice A ks.length c))).alloc (.cells (madeCells #[.bool false] (s.size + 1)) 4))
  have hB1 := Lib.hid (below_alloc (below_alloc (Below.refl w.heap.size w) (.cells (boxC op s0 s1 s2 s3 mn mx (.slice A ks.length c)) 28)) (.cells (madeCells #[.bool false] (s.size + 1)) 4))
  have hL1 : Hid (Blk ((w.alloc (.cells (boxC op s0 s1 s2 s3 mn mx (.slice A ks.length c)) 28)).alloc (.cells (madeCells #[.bool false] (s.size + 1)) 4)) (w.heap.size + 1) 4 (arB s.size (fun _ => false))) := Lib.hid (by
    have hb := Blk.new (w.alloc (.cells (boxC op s0 s1 s2 s3 mn mx (.slice A ks.length c)) 28)) 4 (madeCells #[.bool false] (s.size + 1))
    rw [arB_made, World.size_alloc] at hb
    rw [arB_made]
    exact hb)
  have hgl0 : w.heap.size < w.heap.size + 1 := by omega
  generalize w.heap.size + 1 = gl at *
  generalize (w.alloc (.cells (boxC op s0 s1 s2 s3 mn mx (.slice A ks.length c)) 28)).alloc (.cells (madeCells #[.bool false] (s.size + 1)) 4) = W1 at *
  have hi0 : (0 : Int) ≤ (at_ : Int) := by omega
  have hi1 : (at_ : Int) < ((s.size + 1 : Nat) : Int) := by omega
  have hi2 : at_ < s.size + 1 := by omega
  have cl := hL1.out.cellB at_ hat
  have fl := hL1.out.frozen at_
  go_upto_region 3 with (fail)
  have hL2 := Lib.hid ((hL1.out.setB at_ true hat).eqB (Q := dlt at_) (fun j _ => by simp only [upd, dlt]; by_cases e : j = at_ <;> simp [e]))
  have hX2 := Lib.hid (Blk.far (p := ⟨gl, at_, none⟩) hX1.out (by simp only; omega) (.bool true))
  have hB2 := Lib.hid (hB1.out.setCell (p := ⟨gl, at_, none⟩) (Nat.le_of_lt hgl0) (.bool true))
  clear cl fl hL1 hX1 hB1
  generalize W1.setCell ⟨gl, at_, none⟩ (.bool true) = W2 at *
  go_wp2_with (refine wpList_make_exact rfl (.tmp 22) (.tmp 22) 55 rfl 4 (.bool false) 1 Try.underlying55 info4 (s.size + 1) _ rfl rfl (by simp) (by omega) (by omega) ?_)
  have hX3 := Lib.hid (hX2.out.alloc (.cells (madeCells #[.bool false] (s.size + 1)) 4))
  have hL3 := Lib.hid (hL2.out.alloc (.cells (madeCells #[.bool false] (s.size + 1)) 4))
  have hB3 := Lib.hid (below_alloc hB2.out (.cells (madeCells #[.bool false] (s.size + 1)) 4))
  have hE2 : Hid (Blk (W2.alloc (.cells (madeCells #[.bool false] (s.size + 1)) 4)) W2.heap.size 4 (arB s.size (fun _ => false))) := Lib.hid (by
    have hb := Blk.new W2 4 (madeCells #[.bool false] (s.size + 1))
    rw [arB_made] at hb ⊢
    exact hb)
  have hgg : gl < W2.heap.size := hL2.out.lt
  have hgw : w.heap.size < W2.heap.size := hX2.out.lt
  clear hX2 hL2 hB2
  generalize W2.alloc (.cells (madeCells #[.bool false] (s.size + 1)) 4) = W3 at *
  generalize W2.heap.size = g at *
  go_loopw [9] (fun ii wr => ∃ i : Nat, at_ ≤ i ∧ i ≤ s.size + 1 ∧ ii = .int .i64 i ∧ Hid (Blk wr g 4 (arB s.size (fun j => decide (at_ ≤ j) && decide (j < i)))) ∧ Hid (Below w.heap.size w wr) ∧ Hid (Blk wr gl 4 (arB s.size (dlt at_))) ∧ Hid (Blk wr w.heap.size 28 (boxC op s0 s1 s2 s3 mn mx (.slice A ks.length c)))) (fun ii _ => s.size + 1 - (intOf ii).toNat)
  case atStart => exact ⟨at_, by omega, by omega, rfl, Lib.hid (hE2.out.eqB (fun j _ => by by_cases h : at_ ≤ j <;> simp [h])), hB3, hL3, hX3⟩
  case round =>
    clear hE2 hB3 hX3 hL3
    obtain ⟨i, hi1', hi2', rfl, hR, hB, hL, hX⟩ := hrel
    obtain ⟨wo, rfl⟩ : ∃ wo : World, wo = wr := ⟨_, rfl⟩
    by_cases hlt : i < s.size + 1
    · have hd : decide ((i : Int) < ((s.size + 1 : Nat) : Int)) = true := decide_eq_true (by omega)
      have hd0 : (0 : Int) ≤ (i : Int) := by omega
      have hd1 : (i : Int) < ((s.size + 1 : Nat) : Int) := by omega
      have hcg := hR.out.cellB i (by omega)
      have hfg := hR.out.frozen i
      have hset := Lib.hid ((hR.out.setB i true (by omega)).eqB (Q := fun j => decide (at_ ≤ j) && decide (j < i + 1)) (fun j _ => by
        simp only [upd]
        by_cases e : j = i
        · subst e; rw [if_pos rfl]; simp; exact hi1'
        · rw [if_neg e]
          by_cases h1 : j < i
          · simp [h1, show j < i + 1 by omega]
          · simp [h1, show ¬ j < i + 1 by omega]))
      have hB4 := Lib.hid (hB.out.setCell (p := ⟨g, i, none⟩) (Nat.le_of_lt hgw) (.bool true))
      have hX4 := Lib.hid (Blk.far (p := ⟨g, i, none⟩) hX.out (by simp only; omega) (.bool true))
      have hL4 := Lib.hid (Blk.far (p := ⟨g, i, none⟩) hL.out (by simp only; omega) (.bool true))
      go_wp2
      go_roundw
      case rel => exact ⟨i + 1, by omega, by omega, by go_num, hset, hB4, hL4, hX4⟩
      case measure => simp [intOf]; omega
    · have hd : decide ((i : Int) < ((s.size + 1 : Nat) : Int)) = false := decide_eq_false (by omega)
      have hE := Lib.hid (hR.out.eqB (Q := (apP s (decide (op = 5)) (ks.take 0) at_)) (fun j hj => by
        unfold apP; rw [List.take_zero]; unfold stpX
        simp [show j < i by omega]))
      clear hR
      go_wp2
      go_loopw [10] (fun jj wr => ∃ j : Nat, j ≤ ks.length ∧ jj = .int .i64 j ∧ Hid (Blk wr g 4 (arB s.size (apP s (decide (op = 5)) (ks.take j) at_))) ∧ Hid (Below w.heap.size w wr) ∧ Hid (Blk wr gl 4 (arB s.size (dlt at_))) ∧ Hid (Blk wr w.heap.size 28 (boxC op s0 s1 s2 s3 mn mx (.slice A ks.length c)))) (fun jj _ => ks.length - (intOf jj).toNat)
      case atStart => exact ⟨0, by omega, rfl, hE, hB, hL, hX⟩
      case round =>
        clear hE hB hX hL
        obtain ⟨j, hj, rfl, hR, hB, hL, hX⟩ := hrel
        obtain ⟨wp, rfl⟩ : ∃ wp : World, wp = wr := ⟨_, rfl⟩
        have hc7 : wp.cell? ⟨w.heap.size, 7, none⟩ = some (.slice A ks.length c) := hX.out.cell 7
        by_cases hlj : j < ks.length
        · have hd2 : decide ((j : Int) < (ks.length : Int)) = true := decide_eq_true (by omega)
          have hj0 : (0 : Int) ≤ (j : Int) := by omega
          have hj1 : (j : Int) < (ks.length : Int) := by omega
          obtain ⟨ad, A', c', hA, hN, q0, q1, q2, q3, q4, q5, q6, q7⟩ := kid_at hKH.out j hlj
          subst hA
          have hNp := Lib.hid (hN.below hB.out)
          replace q0 := pw_cell_below hB.out q0
          replace q1 := pw_cell_below hB.out q1
          replace q2 := pw_cell_below hB.out q2
          replace q3 := pw_cell_below hB.out q3
          replace q4 := pw_cell_below hB.out q4
          replace q5 := pw_cell_below hB.out q5
          replace q6 := pw_cell_below hB.out q6
          replace q7 := pw_cell_below hB.out q7
          have hstp := Lib.hid (hkH.out ks[j] (List.getElem_mem hlj))
          have htk := Lib.hid (show ks.take (j + 1) = ks.take j ++ [ks[j]] from List.take_succ_eq_append_getElem hlj)
          have hap := Lib.hid (fun p => show apP s (decide (op = 5)) (ks.take (j + 1)) at_ p = (apP s (decide (op = 5)) (ks.take j) at_ p && (stp s ks[j] (dlt at_) p != decide (op = 5))) by unfold apP; rw [htk.out, stpX_snoc, Bool.and_assoc])
          have hnot : Hid (op = 5 → ∀ p, at_ ≤ p → apP s (decide (op = 5)) (ks.take j) at_ p = true) := Lib.hid (fun h p hp => by
            have hj0 : j = 0 := by have := h5H.out h; omega
            subst hj0
            unfold apP; rw [List.take_zero]; unfold stpX; simp [hp])
          clear hN htk
          generalize ks[j] = k at *
          obtain ⟨m, hm⟩ : ∃ m, m = k.kids.length := ⟨_, rfl⟩
          rw [← hm] at hNp q7
          clear hm
          go_upto_region 12 with (go_at_call 39; refine (hstp.out _ _ gl _ hNp.out hbddH.out hL.out).mono ?_; rintro e W8 ⟨gx, rfl, hgx, hO8, hB8⟩; have hB8H := Lib.hid (below_then hB.out hB.out.size hB8); have hX8 := Lib.hid (hX.out.below hB8 hX.out.lt); have hR8 := Lib.hid (hR.out.below hB8 hR.out.lt); have hL8 := Lib.hid (hL.out.below hB8 hL.out.lt); have hO8H := Lib.hid hO8; have hgxg : g < gx := Nat.lt_of_lt_of_le hR.out.lt hgx; have hgxw : w.heap.size < gx := Nat.lt_of_lt_of_le hX.out.lt hgx; clear hB8 hO8 hgx hc7 q0 q1 q2 q3 q4 q5 q6 q7)
          clear hNp hR hB hL hX hstp
          go_wp2
          go_loopw [12] (fun ii wr => ∃ i : Nat, at_ ≤ i ∧ i ≤ s.size + 1 ∧ ii = .int .i64 i ∧ Hid (Blk wr g 4 (arB s.size (fun p => if p < i then apP s (decide (op = 5)) (ks.take (j + 1)) at_ p else apP s (decide (op = 5)) (ks.take j) at_ p))) ∧ Hid (Below w.heap.size w wr) ∧ Hid (Blk wr gx 4 (arB s.size (stp s k (dlt at_)))) ∧ Hid (Blk wr gl 4 (arB s.size (dlt at_))) ∧ Hid (Blk wr w.heap.size 28 (boxC op s0 s1 s2 s3 mn mx (.slice (some ad) ks.length c)))) (fun ii _ => s.size + 1 - (intOf ii).toNat)
          case atStart => exact ⟨at_, by omega, by omega, rfl, Lib.hid (hR8.out.eqB (fun p _ => by
            by_cases h : p < at_
            · rw [if_pos h]; unfold apP; simp [show ¬ at_ ≤ p by omega]
            · rw [if_neg h])), hB8H, hO8H, hL8, hX8⟩
          case round =>
            clear hR8 hB8H hO8H hX8 hL8
            obtain ⟨i2, hi21, hi22, rfl, hR, hB, hO, hL, hX⟩ := hrel
            obtain ⟨wq, rfl⟩ : ∃ wq : World, wq = wr := ⟨_, rfl⟩
            by_cases hlt2 : i2 < s.size + 1
            · have hd3 : decide ((i2 : Int) < ((s.size + 1 : Nat) : Int)) = true := decide_eq_true (by omega)
              have hd30 : (0 : Int) ≤ (i2 : Int) := by omega
              have hd31 : (i2 : Int) < ((s.size + 1 : Nat) : Int) := by omega
              have hd32 : i2 < s.size + 1 := hlt2
              have hcy := hR.out.cellB i2 (by omega)
              have hcx := hO.out.cellB i2 (by omega)
              have hco : wq.cell? ⟨w.heap.size, 0, none⟩ = some (.int .i64 op) := hX.out.cell 0
              simp only [Nat.lt_irrefl, if_false] at hcy
              have hfg := hR.out.frozen i2
              obtain ⟨y, hy⟩ : ∃ y, y = apP s (decide (op = 5)) (ks.take j) at_ i2 := ⟨_, rfl⟩
              obtain ⟨x, hx⟩ : ∃ x, x = stp s k (dlt at_) i2 := ⟨_, rfl⟩
              rw [← hy] at hcy
              rw [← hx] at hcx
              have hyt := Lib.hid (fun (h : op = 5) => show y = true by rw [hy]; exact hnot.out h i2 hi21)
              have hset : Hid (∀ z, z = (y && (x != decide (op = 5))) → Blk (wq.setCell ⟨g, i2, none⟩ (.bool z)) g 4 (arB s.size (fun p => if p < i2 + 1 then apP s (decide (op = 5)) (ks.take (j + 1)) at_ p else apP s (decide (op = 5)) (ks.take j) at_ p))) := Lib.hid (fun z hz =>
                (hR.out.setB i2 z (by omega)).eqB (fun p _ => by
                  simp only [upd]
                  by_cases e : p = i2
                  · subst e; rw [if_pos rfl, if_pos (by omega), hap.out, ← hy, ← hx]; exact hz
                  · rw [if_neg e]
                    by_cases h1 : p < i2
                    · rw [if_pos h1, if_pos (by omega)]
                    · rw [if_neg h1, if_neg (by omega)]))
              have hB10 : Hid (∀ z, Below w.heap.size w (wq.setCell ⟨g, i2, none⟩ (.bool z))) := Lib.hid (fun z => hB.out.setCell (p := ⟨g, i2, none⟩) (Nat.le_of_lt hgw) _)
              have hO10 : Hid (∀ z, Blk (wq.setCell ⟨g, i2, none⟩ (.bool z)) gx 4 (arB s.size (stp s k (dlt at_)))) := Lib.hid (fun z => Blk.far (p := ⟨g, i2, none⟩) hO.out (by simp only; omega) _)
              have hL10 : Hid (∀ z, Blk (wq.setCell ⟨g, i2, none⟩ (.bool z)) gl 4 (arB s.size (dlt at_))) := Lib.hid (fun z => Blk.far (p := ⟨g, i2, none⟩) hL.out (by simp only; omega) _)
              have hX10 : Hid (∀ z, Blk (wq.setCell ⟨g, i2, none⟩ (.bool z)) w.heap.size 28 (boxC op s0 s1 s2 s3 mn mx (.slice (some ad) ks.length c))) := Lib.hid (fun z => Blk.far (p := ⟨g, i2, none⟩) hX.out (by simp only; omega) _)
              clear hx hy hR hO hL hX hB
              by_cases ho : op = 5
              · have hyy := hyt.out ho
                subst hyy
                have hb5 : (op == 5) = true := beq_iff_eq.2 ho
                have hd5 : decide (op = 5) = true := decide_eq_true ho
                have hz : Hid ((!x) = (true && (x != decide (op = 5)))) := Lib.hid (by rw [hd5]; cases x <;> rfl)
                have hoH := Lib.hid ho
                clear ho
                go_wp2
                all_goals go_roundw
                all_goals (first | (exact ⟨i2 + 1, by omega, by omega, by go_num, Lib.hid (hset.out _ hz.out), Lib.hid (hB10.out _), Lib.hid (hO10.out _), Lib.hid (hL10.out _), Lib.hid (hX10.out _)⟩) | (simp [intOf]; omega))
              · have hb5 : (op == 5) = false := beq_false_of_ne ho
                have hd5 : decide (op = 5) = false := decide_eq_false ho
                have hz : Hid ((y && x) = (y && (x != decide (op = 5)))) := Lib.hid (by rw [hd5]; cases x <;> cases y <;> rfl)
                cases y <;> cases x
                all_goals go_wp2
                all_goals go_roundw
                all_goals (first | (exact ⟨i2 + 1, by omega, by omega, by go_num, Lib.hid (hset.out _ hz.out), Lib.hid (hB10.out _), Lib.hid (hO10.out _), Lib.hid (hL10.out _), Lib.hid (hX10.out _)⟩) | (simp [intOf]; omega))
            · have hd3 : decide ((i2 : Int) < ((s.size + 1 : Nat) : Int)) = false := decide_eq_false (by omega)
              have hE := Lib.hid (hR.out.eqB (Q := (apP s (decide (op = 5)) (ks.take (j + 1)) at_)) (fun p hp => by rw [if_pos (by omega)]))
              go_wp2
              go_roundw
              case rel => exact ⟨j + 1, by omega, by go_num, hE, hB, hL, hX⟩
              case measure => simp [intOf]; omega
        · have hd2 : decide ((j : Int) < (ks.length : Int)) = false := decide_eq_false (by omega)
          have hjl : j = ks.length := by omega
          have hE := Lib.hid (show Blk wp g 4 (arB s.size (apP s (decide (op = 5)) ks at_)) by have := hR.out; rwa [hjl, hfull.out] at this)
          clear hjl
          go_wp2
          go_ret
          exact ⟨g, rfl, Nat.le_of_lt hgw, hE.out, hB.out⟩
end Go.Proofs.Ytimhiacjoplkeaa
