/- The reference's Ends, Longest, First and Cut walked. Own text (printed by wip/c04/gen_ren.py). -/
import Derived.Test.YtimhiacjoplkeaaRFrm
import Derived.Test.YtimhiacjoplkeaaCut
namespace Go.Proofs.Ytimhiacjoplkeaa
open Go.RowKit Go.Proofs.Ytimhiacjoplkeaa.P Go.Proofs.YtimhiacjoplkeaaW.PrintWords Go.Proofs.YtimhiacjoplkeaaW.PrintLast
attribute [local go_sem] Go.Proofs.YtimhiacjoplkeaaW.PrintMore.max2_int Go.Proofs.YtimhiacjoplkeaaW.PrintMore.max_two
set_option linter.unusedVariables false
set_option linter.unusedSimpArgs false
set_option maxRecDepth 20000 in
set_option maxHeartbeats 2000000 in
theorem ends_r (s : ByteArray) (hs : s.size ≤ 1000000) (n : Nd) (hG : Gd n) (fr : Int) (w : World) (v : Value) (hn : IsN w n v) :
    Calls Try.prog 31 #[v, .string s, .int .i64 fr] w fun e w' => ∃ v', e = .returned v' ∧ (Kd.int .i64).R 3 w' w.heap.size (fun _ => True) v' (intsOf (endsP s n fr)) ∧ Below w.heap.size w w' := by
  have hstep := Lib.hid (fun w v h P (a : IsN w n v) b c => from_c s hs n hG w v h P a b c)
  have hnH := Lib.hid hn
  obtain ⟨A, c, rfl, hc, hlen, hK⟩ := hn
  unfold endsP
  by_cases h0 : fr < 0
  · rw [if_pos (.inl h0)]
    have hd : decide (fr < 0) = true := decide_eq_true h0
    clear hK
    go_enter Try.func31, Try.ntmps31
    go_wp2
    go_ret
    exact ⟨_, rfl, Kd.R_nil _ _ _ _ _, below_alloc (Below.refl _ _) _⟩
  have hd : decide (fr < 0) = false := decide_eq_false h0
  by_cases h1 : (s.size : Int) < fr
  · rw [if_pos (.inr h1)]
    have hd1 : decide ((s.size : Int) < fr) = true := decide_eq_true h1
    clear hK
    go_enter Try.func31, Try.ntmps31
    go_wp2
    go_ret
    exact ⟨_, rfl, Kd.R_nil _ _ _ _ _, below_alloc (Below.refl _ _) _⟩
  have hd1 : decide ((s.size : Int) < fr) = false := decide_eq_false h1
  rw [if_neg (fun h => h.elim h0 h1)]
  obtain ⟨f, rfl⟩ := Int.eq_ofNat_of_zero_le (show 0 ≤ fr by omega)
  rw [Int.toNat_natCast]
  have hfs : f ≤ s.size := by omega
  have hbdd := Lib.hid (show ∀ i, dlt f i = true → i ≤ s.size from fun i h => by rw [dlt_iff.1 h]; exact hfs)
  have hst2 := fun w v h a c => hstep.out w v h (dlt f) a hbdd.out c
  generalize stp s n (dlt f) = F at hst2 ⊢
  have hst2H := Lib.hid hst2
  clear hK h0 h1 hst2 hstep hbdd
  show Calls Try.prog 31 #[.agg (boxC n.op n.s0 n.s1 n.s2 n.s3 n.mn n.mx (.slice A n.kids.length c)), .string s, .int .i64 (f : Int)] w _
  go_enter Try.func31, Try.ntmps31
  go_upto_region 4 with (refine wpList_make_exact rfl (.tmp 21) (.tmp 21) 55 rfl 4 (.bool false) 1 Try.underlying55 info4 (s.size + 1) _ rfl rfl (by simp) (by omega) (by omega) ?_)
  have hX1 := Lib.hid ((Blk.new w 28 (boxC n.op n.s0 n.s1 n.s2 n.s3 n.mn n.mx (.slice A n.kids.length c))).alloc (.cells (madeCells #[.bool false] (s.size + 1)) 4))
  have hB1 := Lib.hid (below_alloc (below_alloc (Below.refl w.heap.size w) (.cells (boxC n.op n.s0 n.s1 n.s2 n.s3 n.mn n.mx (.slice A n.kids.length c)) 28)) (.cells (madeCells #[.bool false] (s.size + 1)) 4))
  have hL1 : Hid (Blk ((w.alloc (.cells (boxC n.op n.s0 n.s1 n.s2 n.s3 n.mn n.mx (.slice A n.kids.length c)) 28)).alloc (.cells (madeCells #[.bool false] (s.size + 1)) 4)) (w.heap.size + 1) 4 (arB s.size (fun _ => false))) := Lib.hid (by
    have hb := Blk.new (w.alloc (.cells (boxC n.op n.s0 n.s1 n.s2 n.s3 n.mn n.mx (.slice A n.kids.length c)) 28)) 4 (madeCells #[.bool false] (s.size + 1))
    rw [arB_made, World.size_alloc] at hb
    rw [arB_made]
    exact hb)
  have hgl0 : w.heap.size < w.heap.size + 1 := by omega
  generalize w.heap.size + 1 = gl at *
  generalize (w.alloc (.cells (boxC n.op n.s0 n.s1 n.s2 n.s3 n.mn n.mx (.slice A n.kids.length c)) 28)).alloc (.cells (madeCells #[.bool false] (s.size + 1)) 4) = W1 at *
  have hi0 : (0 : Int) ≤ (f : Int) := by omega
  have hi1 : (f : Int) < ((s.size + 1 : Nat) : Int) := by omega
  have hi2 : f < s.size + 1 := by omega
  have cl := hL1.out.cellB f hfs
  have fl := hL1.out.frozen f
  go_upto_region 5 with (fail)
  have hL2 := Lib.hid ((hL1.out.setB f true hfs).eqB (Q := dlt f) (fun j _ => by simp only [upd, dlt]; by_cases e : j = f <;> simp [e]))
  have hX2 := Lib.hid (Blk.far (p := ⟨gl, f, none⟩) hX1.out (by simp only; omega) (.bool true))
  have hB2 := Lib.hid (hB1.out.setCell (p := ⟨gl, f, none⟩) (Nat.le_of_lt hgl0) (.bool true))
  clear cl fl hL1 hX1 hB1
  generalize W1.setCell ⟨gl, f, none⟩ (.bool true) = W2 at *
  have hN2 := Lib.hid (hnH.out.below hB2.out)
  have e0 := hX2.out.cell 0
  have e1 := hX2.out.cell 1
  have e2 := hX2.out.cell 2
  have e3 := hX2.out.cell 3
  have e4 := hX2.out.cell 4
  have e5 := hX2.out.cell 5
  have e6 := hX2.out.cell 6
  have e7 := hX2.out.cell 7
  simp only [List.getElem?_toArray, List.getElem?_cons_zero, List.getElem?_cons_succ] at e0 e1 e2 e3 e4 e5 e6 e7
  go_upto_region 6 with (go_at_call 39; refine (hst2H.out _ _ gl hN2.out hL2.out).mono ?_; rintro e W8 ⟨gx, rfl, hgx, hO8, hB8⟩; have hB8H := Lib.hid (below_then hB2.out hB2.out.size hB8); have hO8H := Lib.hid hO8; clear hB8 hO8 hgx e0 e1 e2 e3 e4 e5 e6 e7)
  clear hN2 hX2 hL2 hB2 hst2H hnH
  go_wp2
  go_loopw [9, 10] (fun oo ii wr => ∃ i : Nat, i ≤ s.size + 1 ∧ ii = .int .i64 i ∧ Hid ((Kd.int .i64).R 3 wr W8.heap.size (fun _ => True) oo (intsOf ((List.range i).filter F))) ∧ Hid (Below W8.heap.size W8 wr)) (fun _ ii _ => s.size + 1 - (intOf ii).toNat)
  case atStart => exact ⟨0, by omega, rfl, Lib.hid (by simp only [List.range_zero, List.filter_nil]; exact Kd.R_nil _ _ _ _ _), Lib.hid (Below.refl _ _)⟩
  case round =>
    obtain ⟨i, hi, rfl, hR, hB⟩ := hrel
    obtain ⟨wp, rfl⟩ : ∃ wp : World, wp = wr := ⟨_, rfl⟩
    obtain ⟨A5, c5, e5⟩ := Kd.R_slice hR.out
    subst e5
    by_cases hlt : i < s.size + 1
    · have hd2 : decide ((i : Int) < ((s.size + 1 : Nat) : Int)) = true := decide_eq_true (by omega)
      have hj0 : (0 : Int) ≤ (i : Int) := by omega
      have hj1 : (i : Int) < ((s.size + 1 : Nat) : Int) := by omega
      have hX := Lib.hid (hO8H.out.below hB.out hO8H.out.lt)
      have hcx := hX.out.cellB i (by omega)
      have hup := Lib.hid (upto_succ F i)
      have hll := Lib.hid (show (intsOf ((List.range i).filter F)).length ≤ i by unfold intsOf; rw [List.length_map]; exact upto_len F i)
      have hsz := Lib.hid hB.out.size
      cases hf : F i with
      | true =>
        rw [hf] at hcx
        rw [hf, if_pos rfl] at hup
        have hup2 := Lib.hid (show intsOf ((List.range (i + 1)).filter F) = intsOf ((List.range i).filter F) ++ [(i : Int)] by rw [hup.out]; unfold intsOf; rw [List.map_append]; rfl)
        have hfH := Lib.hid hf
        clear hf hup
        generalize intsOf ((List.range i).filter F) = l at *
        go_wp2_with ((with_reducible refine gate_builtin (b := .append) (xs := #[.tmp 40, .tmp 42]) rfl ?_); at_builtin; go_loud (refine Kd.R_append (Kd.int .i64) (w0 := W8) W8.heap.size rfl (.tmp 40) (.tmp 42) 46 3 (.int .i64 0) 8 rfl Try.underlying46 info3' rfl (by decide) (by decide) (.slice A5 l.length c5) l (i : Int) [.int .i64 (i : Int)] (fun _ => True) (fun _ => False) rfl rfl rfl (fun _ hk => hk.elim) (fun _ _ => trivial) hR.out hB.out hsz.out (by have := hll.out; omega) ?_; intro v9 w9 ho9 hb9 hg9 hat9; have hR9 := Lib.hid ho9; have hB9 := Lib.hid hb9; clear ho9 hb9 hg9 hat9))
        go_roundw
        case rel => exact ⟨i + 1, by omega, by go_num, by rw [hup2.out]; exact hR9, hB9⟩
        case measure => simp [intOf]; omega
      | false =>
        rw [hf] at hcx
        rw [hf, if_neg (by simp)] at hup
        have hfH := Lib.hid hf
        clear hf
        generalize hl : intsOf ((List.range i).filter F) = l at *
        have hlH := Lib.hid hl
        clear hl
        go_wp2
        go_roundw
        case rel => exact ⟨i + 1, by omega, by go_num, by rw [hup.out, hlH.out]; exact hR, hB⟩
        case measure => simp [intOf]; omega
    · have hd2 : decide ((i : Int) < ((s.size + 1 : Nat) : Int)) = false := decide_eq_false (by omega)
      have hil : i = s.size + 1 := by omega
      have hRf := Lib.hid (show (Kd.int .i64).R 3 wp W8.heap.size (fun _ => True) (.slice A5 (intsOf ((List.range i).filter F)).length c5) (intsOf (trues s.size F)) by
        have h := hR.out
        conv at h => arg 7; rw [hil]
        exact h)
      have hBw := Lib.hid (below_then hB8H.out hB8H.out.size hB.out)
      clear hR hil
      generalize (intsOf ((List.range i).filter F)).length = m at *
      go_wp2
      go_ret
      exact ⟨.slice A5 m c5, rfl, Kd.R_lower hRf.out hB8H.out.size, hBw.out⟩
set_option maxRecDepth 20000 in
theorem longest_r (s : ByteArray) (hs : s.size ≤ 1000000) (n : Nd) (hG : Gd n) (fr : Int) (w : World) (v : Value) (hn : IsN w n v) :
    Calls Try.prog 26 #[v, .string s, .int .i64 fr] w fun e w' => e = .returned (.tuple #[.int .i64 (longP s n fr).1, .bool (longP s n fr).2]) ∧ Below w.heap.size w w' := by
  have hends := Lib.hid (fun w v (hn : IsN w n v) => ends_r s hs n hG fr w v hn)
  have hnH := Lib.hid hn
  obtain ⟨A, c, rfl, hc, hlen, hK⟩ := hn
  unfold longP
  generalize endsP s n fr = l at *
  have hN1 : Hid (∀ w1, Below w.heap.size w w1 → IsN w1 n (ndVal n (.slice A n.kids.length c))) := Lib.hid (fun w1 hb => hnH.out.below hb)
  clear hK hnH
  by_cases hl : l = []
  · subst hl
    rw [lastP_nil]
    go_enter Try.func26, Try.ntmps26
    go_wp2_with (go_at_call 31; refine (hends.out _ _ (hN1.out _ (below_alloc (Below.refl _ _) _))).mono ?_; rintro e w1 ⟨v1, rfl, hR, hB⟩; obtain ⟨A1, c1, e1, _, hC1⟩ := Kd.R_reads hR; subst e1; have hBH := Lib.hid (below_then (below_alloc (Below.refl w.heap.size w) _) (by simp) hB); clear hR hB hC1)
    go_ret2
    exact ⟨rfl, hBH.out⟩
  · rw [lastP_at l hl]
    have hp := List.length_pos_iff.2 hl
    obtain ⟨m, hm⟩ : ∃ m, l.length = m + 1 := ⟨l.length - 1, by omega⟩
    have him : (intsOf l).length = m + 1 := by unfold intsOf; rw [List.length_map, hm]
    rw [hm, Nat.add_sub_cancel]
    have hg : Hid (rd (intsOf l) (m : Int) = ((l.getD m 0 : Nat) : Int)) := Lib.hid (by
      unfold rd intsOf
      rw [Int.toNat_natCast, List.getD_eq_getElem?_getD, List.getElem?_map, List.getD_eq_getElem?_getD, List.getElem?_eq_getElem (by omega)]
      rfl)
    have hml : Hid (m < 9223372036854775807) ∨ True := .inr trivial
    generalize l.getD m 0 = z at *
    generalize intsOf l = li at *
    clear hl hp hm
    go_enter Try.func26, Try.ntmps26
    go_upto_region 2 with (go_at_call 31; refine (hends.out _ _ (hN1.out _ (below_alloc (Below.refl _ _) _))).mono ?_; rintro e w1 ⟨v1, rfl, hR, hB⟩; obtain ⟨A1, c1, e1, _, hC1⟩ := Kd.R_reads hR; subst e1; have hBH := Lib.hid (below_then (below_alloc (Below.refl w.heap.size w) _) (by simp) hB); have hC1H := Lib.hid hC1; clear hR hB hC1)
    rw [him] at *
    have hmx := hC1H.out.2.1
    obtain ⟨ad, hA, hcell⟩ := Kd.at_int hC1H.out (m : Int) (by omega) (by omega)
    subst hA
    rw [hg.out, Int.toNat_natCast] at hcell
    have hd : ((((m + 1 : Nat) : Int)) == 0) = false := beq_eq_false_iff_ne.2 (by omega)
    have hw : IntKind.i64.wrap (((m + 1 : Nat) : Int) - 1) = (m : Int) := by rw [IntKind.wrap_i64]; omega
    have hi0 : (0 : Int) ≤ (m : Int) := by omega
    have hi1 : (m : Int) < ((m + 1 : Nat) : Int) := by omega
    clear hC1H
    go_wp2
    go_ret2
    exact ⟨rfl, hBH.out⟩
set_option maxRecDepth 20000 in
set_option maxHeartbeats 1000000 in
theorem first_r (s : ByteArray) (hs : s.size ≤ 1000000) (n : Nd) (hG : Gd n) (fr : Int) (w : World) (v : Value) (hn : IsN w n v) :
    Calls Try.prog 10 #[v, .string s, .int .i64 fr] w fun e w' => e = .returned (.tuple #[.int .i64 (firstP (fun i : Nat => longP s n (i : Int)) (s.size + 1 - (max fr 0).toNat) (max fr 0).toNat).1, .int .i64 (firstP (fun i : Nat => longP s n (i : Int)) (s.size + 1 - (max fr 0).toNat) (max fr 0).toNat).2.1, .bool (firstP (fun i : Nat => longP s n (i : Int)) (s.size + 1 - (max fr 0).toNat) (max fr 0).toNat).2.2]) ∧ Below w.heap.size w w' := by
  have hlong := Lib.hid (fun (i : Nat) w v (hn : IsN w n v) => longest_r s hs n hG (i : Int) w v hn)
  have hnH := Lib.hid hn
  obtain ⟨A, c, rfl, hc, hlen, hK⟩ := hn
  have hN1 : Hid (∀ w1, Below w.heap.size w w1 → IsN w1 n (ndVal n (.slice A n.kids.length c))) := Lib.hid (fun w1 hb => hnH.out.below hb)
  clear hK hnH
  obtain ⟨f, hf⟩ : ∃ f : Nat, max fr 0 = (f : Int) := ⟨(max fr 0).toNat, by omega⟩
  rw [hf, Int.toNat_natCast]
  have hmx : (if fr < 0 then (0 : Int) else fr) = (f : Int) := by rw [← hf]; split <;> omega
  clear hf
  have hN2 : Hid (∀ w1, Below w.heap.size w w1 → cells8 w1 w.heap.size n.op n.s0 n.s1 n.s2 n.s3 n.mn n.mx (.slice A n.kids.length c) → True) := Lib.hid (fun _ _ _ => trivial)
  obtain ⟨G, hG⟩ : ∃ G : Nat → Int × Bool, G = fun i : Nat => longP s n (i : Int) := ⟨_, rfl⟩
  have hlong2 : Hid (∀ (i : Nat) w v (hn : IsN w n v), Calls Try.prog 26 #[v, .string s, .int .i64 (i : Int)] w fun e w' => e = .returned (.tuple #[.int .i64 (G i).1, .bool (G i).2]) ∧ Below w.heap.size w w') := Lib.hid (by rw [hG]; exact hlong.out)
  rw [← hG]
  clear hG hlong hN2
  show Calls Try.prog 10 #[.agg (boxC n.op n.s0 n.s1 n.s2 n.s3 n.mn n.mx (.slice A n.kids.length c)), .string s, .int .i64 fr] w _
  go_enter Try.func10, Try.ntmps10
  go_wp2
  have hX := Lib.hid (Blk.new w 28 (boxC n.op n.s0 n.s1 n.s2 n.s3 n.mn n.mx (.slice A n.kids.length c)))
  have hB := Lib.hid (below_alloc (Below.refl w.heap.size w) (.cells (boxC n.op n.s0 n.s1 n.s2 n.s3 n.mn n.mx (.slice A n.kids.length c)) 28))
  generalize w.alloc (.cells (boxC n.op n.s0 n.s1 n.s2 n.s3 n.mn n.mx (.slice A n.kids.length c)) 28) = W0 at *
  go_loopw [9] (fun ii wr => ∃ i : Nat, ii = .int .i64 i ∧ Hid (firstP G (s.size + 1 - f) f = firstP G (s.size + 1 - i) i) ∧ Hid (Blk wr w.heap.size 28 (boxC n.op n.s0 n.s1 n.s2 n.s3 n.mn n.mx (.slice A n.kids.length c))) ∧ Hid (Below w.heap.size w wr)) (fun ii _ => s.size + 1 - (intOf ii).toNat)
  case atStart => exact ⟨f, rfl, rfl, hX, hB⟩
  case round =>
    clear hX hB
    obtain ⟨i, rfl, hE, hX, hB⟩ := hrel
    by_cases hlt : i ≤ s.size
    · have hd : decide ((i : Int) ≤ (s.size : Int)) = true := decide_eq_true (by omega)
      have hs1 : s.size + 1 - i = (s.size + 1 - (i + 1)) + 1 := by omega
      have hsx := Lib.hid hs1
      clear hs1
      have d0 := hX.out.cell 0
      have d1 := hX.out.cell 1
      have d2 := hX.out.cell 2
      have d3 := hX.out.cell 3
      have d4 := hX.out.cell 4
      have d5 := hX.out.cell 5
      have d6 := hX.out.cell 6
      have d7 := hX.out.cell 7
      simp only [List.getElem?_toArray, List.getElem?_cons_zero, List.getElem?_cons_succ] at d0 d1 d2 d3 d4 d5 d6 d7
      have hcall := hlong2.out i wr _ (hN1.out wr hB.out)
      have hun : firstP G (s.size + 1 - i) i = if (G i).2 = true then ((i : Int), (G i).1, true) else firstP G (s.size + 1 - (i + 1)) (i + 1) := by rw [hsx.out]; rfl
      have hunH := Lib.hid (hE.out.trans hun)
      have hw : IntKind.i64.wrap ((i : Int) + 1) = ((i + 1 : Nat) : Int) := by rw [IntKind.wrap_i64]; omega
      clear hun hE
      generalize G i = q at *
      obtain ⟨a, b⟩ := q
      simp only at hunH hcall
      have hcallH := Lib.hid hcall
      clear hcall
      cases b with
      | true =>
        go_wp2_with (go_at_call 26; refine hcallH.out.mono ?_; rintro e w2 ⟨rfl, hB2⟩; have hB2H := Lib.hid (below_then hB.out hB.out.size hB2); clear hB2)
        refine bodyPost_ret (results_tmp3 rfl _ _ _) rfl ?_
        exact ⟨by rw [hunH.out]; rfl, hB2H.out⟩
      | false =>
        go_wp2_with (go_at_call 26; refine hcallH.out.mono ?_; rintro e w2 ⟨rfl, hB2⟩; have hB2H := Lib.hid (below_then hB.out hB.out.size hB2); have hX2 := Lib.hid (hX.out.below hB2 hX.out.lt); clear hB2)
        go_roundw
        case rel => exact ⟨i + 1, by go_num, Lib.hid (by rw [hunH.out]; rfl), hX2, hB2H⟩
        case measure => simp [intOf]; omega
    · have hd : decide ((i : Int) ≤ (s.size : Int)) = false := decide_eq_false (by omega)
      have hz : s.size + 1 - i = 0 := by omega
      have hEE := Lib.hid (show firstP G (s.size + 1 - f) f = (0, 0, false) by rw [hE.out, hz]; rfl)
      clear hE hz
      go_wp2
      refine bodyPost_ret (results_tmp3 rfl _ _ _) rfl ?_
      exact ⟨by rw [hEE.out]; rfl, hB.out⟩
set_option maxRecDepth 20000 in
set_option maxHeartbeats 2000000 in
theorem cut_r (s : ByteArray) (hs : s.size ≤ 1000000) (n : Nd) (hG : Gd n) (w : World) (v : Value) (hn : IsN w n v) :
    Calls Try.prog 13 #[v, .string s] w fun e w' => ∃ v', e = .returned v' ∧ Kd.string.R 9 w' w.heap.size (fun _ => True) v' (cutOf s n) ∧ Below w.heap.size w w' := by
  have hlong := Lib.hid (fun (i : Nat) w v (hn : IsN w n v) => longest_r s hs n hG (i : Int) w v hn)
  have hle := Lib.hid (fun (i : Nat) (hi : i ≤ s.size) h => longP_le s n i hi h)
  have hnH := Lib.hid hn
  obtain ⟨A, c, rfl, hc, hlen, hK⟩ := hn
  have hN1 : Hid (∀ w1, Below w.heap.size w w1 → IsN w1 n (ndVal n (.slice A n.kids.length c))) := Lib.hid (fun w1 hb => hnH.out.below hb)
  clear hK hnH
  unfold cutOf
  obtain ⟨G, hG⟩ : ∃ G : Nat → Int × Bool, G = fun i : Nat => longP s n (i : Int) := ⟨_, rfl⟩
  have hlong2 : Hid (∀ (i : Nat) w v (hn : IsN w n v), Calls Try.prog 26 #[v, .string s, .int .i64 (i : Int)] w fun e w' => e = .returned (.tuple #[.int .i64 (G i).1, .bool (G i).2]) ∧ Below w.heap.size w w') := Lib.hid (by rw [hG]; exact hlong.out)
  have hle2 : Hid (∀ i : Nat, i ≤ s.size → (G i).2 = true → ∃ j : Nat, (G i).1 = (j : Int) ∧ i ≤ j ∧ j ≤ s.size) := Lib.hid (fun i hi h => by
    subst hG
    obtain ⟨j, h1, h2, h3, _⟩ := hle.out i hi h
    exact ⟨j, h1, h2, h3⟩)
  rw [← hG]
  clear hG hlong hle
  show Calls Try.prog 13 #[.agg (boxC n.op n.s0 n.s1 n.s2 n.s3 n.mn n.mx (.slice A n.kids.length c)), .string s] w _
  go_enter Try.func13, Try.ntmps13
  go_wp2
  have hX := Lib.hid (Blk.new w 28 (boxC n.op n.s0 n.s1 n.s2 n.s3 n.mn n.mx (.slice A n.kids.length c)))
  have hB := Lib.hid (below_alloc (Below.refl w.heap.size w) (.cells (boxC n.op n.s0 n.s1 n.s2 n.s3 n.mn n.mx (.slice A n.kids.length c)) 28))
  generalize w.alloc (.cells (boxC n.op n.s0 n.s1 n.s2 n.s3 n.mn n.mx (.slice A n.kids.length c)) 28) = W0 at *
  go_loopw [5, 6, 7] (fun oo dd ii wr => ∃ (i dn k : Nat) (l : List ByteArray), ii = .int .i64 i ∧ dd = .int .i64 dn ∧ dn ≤ s.size ∧ i ≤ s.size ∧ s.size + 1 ≤ k + max i dn ∧ l.length ≤ i ∧ Hid (cutP G s (s.size + 1) 0 0 = l ++ cutP G s k (max i dn) dn) ∧ Hid (Kd.string.R 9 wr w.heap.size (fun _ => True) oo l) ∧ Hid (Blk wr w.heap.size 28 (boxC n.op n.s0 n.s1 n.s2 n.s3 n.mn n.mx (.slice A n.kids.length c))) ∧ Hid (Below w.heap.size w wr) ∧ Hid (∀ k, oo.ownBlock = some k → w.heap.size < k)) (fun _ _ ii _ => s.size + 1 - (intOf ii).toNat)
  case atStart => exact ⟨0, 0, s.size + 1, [], rfl, rfl, by omega, by omega, by omega, by simp, Lib.hid (by simp), Lib.hid (Kd.R_nil _ _ _ _ _), hX, hB, Lib.hid (fun k h => by cases h)⟩
  case round =>
    clear hX hB
    obtain ⟨i, dn, k, l, rfl, rfl, hdi, his, hk, hll, hE, hR, hX, hB, hO⟩ := hrel
    by_cases hlt : i < s.size
    · have hd : decide ((i : Int) < (s.size : Int)) = true := decide_eq_true (by omega)
      obtain ⟨k', rfl⟩ : ∃ k', k = k' + 1 := ⟨k - 1, by omega⟩
      have d0 := hX.out.cell 0
      have d1 := hX.out.cell 1
      have d2 := hX.out.cell 2
      have d3 := hX.out.cell 3
      have d4 := hX.out.cell 4
      have d5 := hX.out.cell 5
      have d6 := hX.out.cell 6
      have d7 := hX.out.cell 7
      simp only [List.getElem?_toArray, List.getElem?_cons_zero, List.getElem?_cons_succ] at d0 d1 d2 d3 d4 d5 d6 d7
      have hcall := hlong2.out i wr _ (hN1.out wr hB.out)
      have hle3 := hle2.out i his
      by_cases hge : dn ≤ i
      · have hgd : decide ((dn : Int) ≤ (i : Int)) = true := decide_eq_true (by omega)
        have hgd2 : (dn : Int) ≤ (i : Int) := by omega
        have hmx : max i dn = i := by omega
        rw [hmx] at hE hk
        have hun : cutP G s (k' + 1) i dn = (if (G i).2 = false ∨ (G i).1 = (i : Int) then cutP G s k' (i + 1) dn else s.extract dn i :: cutP G s k' (G i).1.toNat (G i).1.toNat) := by
          show (if i < s.size then _ else _) = _
          rw [if_pos hlt]
        have hunH := Lib.hid (hE.out.trans (congrArg (l ++ ·) hun))
        clear hun hE hmx
        generalize G i = q at *
        obtain ⟨a, b⟩ := q
        simp only at hunH hcall hle3
        have hcallH := Lib.hid hcall
        clear hcall
        cases b with
        | false =>
          clear hle3
          go_wp2_with (go_at_call 26; refine hcallH.out.mono ?_; rintro e w2 ⟨rfl, hB2⟩; have hB2H := Lib.hid (below_then hB.out hB.out.size hB2); have hX2 := Lib.hid (hX.out.below hB2 hX.out.lt); have hR2 := Lib.hid (Kd.R_below hR.out hB2); clear hB2)
          go_roundw
          case rel => exact ⟨i + 1, dn, k', l, by go_num, rfl, by omega, by omega, by omega, by omega, Lib.hid (by rw [hunH.out, show max (i + 1) dn = i + 1 by omega]; simp), hR2, hX2, hB2H, hO⟩
          case measure => simp [intOf]; omega
        | true =>
          obtain ⟨j, rfl, hij, hjs⟩ := hle3 rfl
          by_cases hji : j = i
          · subst hji
            have hbe : decide ((j : Int) < (j : Int)) = false := decide_eq_false (by omega)
            have hbe2 : ¬ (j : Int) < (j : Int) := by omega
            go_wp2_with (go_at_call 26; refine hcallH.out.mono ?_; rintro e w2 ⟨rfl, hB2⟩; have hB2H := Lib.hid (below_then hB.out hB.out.size hB2); have hX2 := Lib.hid (hX.out.below hB2 hX.out.lt); have hR2 := Lib.hid (Kd.R_below hR.out hB2); clear hB2)
            go_roundw
            case rel => exact ⟨j + 1, dn, k', l, by go_num, rfl, by omega, by omega, by omega, by omega, Lib.hid (by rw [hunH.out, show max (j + 1) dn = j + 1 by omega]; simp), hR2, hX2, hB2H, hO⟩
            case measure => simp [intOf]; omega
          · have hbe : decide ((i : Int) < (j : Int)) = true := decide_eq_true (by omega)
            have hbe2 : (i : Int) < (j : Int) := by omega
            have hunJ : Hid (cutP G s (s.size + 1) 0 0 = (l ++ [s.extract dn i]) ++ cutP G s k' (max (i + 1) j) j) := Lib.hid (by
              rw [hunH.out, if_neg (by rintro (h | h); exact absurd h (by simp); omega), show max (i + 1) j = j by omega]; simp)
            clear hunH
            have g1 : (dn : Int) ≤ (i : Int) := by omega
            have g2 : (i : Int) ≤ (s.size : Int) := by omega
            have g3 : dn ≤ i := hge
            have g4 : i ≤ s.size := his
            obtain ⟨A5, c5, e5⟩ := Kd.R_slice hR.out
            subst e5
            go_upto_region 8 with (go_at_call 26; refine hcallH.out.mono ?_; rintro e w2 ⟨rfl, hB2⟩; have hB2H := Lib.hid (below_then hB.out hB.out.size hB2); have hX2 := Lib.hid (hX.out.below hB2 hX.out.lt); have hR2 := Lib.hid (Kd.R_below hR.out hB2); clear hB2)
            have hsz2 : w.heap.size ≤ w2.heap.size := hB2H.out.size
            go_wp2_with ((with_reducible refine gate_builtin (b := .append) (xs := #[.tmp 34, .tmp 39]) rfl ?_); at_builtin; go_loud (refine Kd.R_append Kd.string (w0 := w) w.heap.size rfl (.tmp 34) (.tmp 39) 33 9 (.string ⟨#[]⟩) 16 rfl Try.underlying33 info9' rfl (by decide) (by decide) (.slice A5 l.length c5) l (s.extract dn i) [.string (s.extract dn i)] (fun _ => True) (fun _ => False) rfl rfl rfl (fun _ hk => hk.elim) (fun _ _ => trivial) hR2.out hB2H.out hsz2 (by omega) ?_; intro v9 w9 ho9 hb9 hg9 hat9; obtain ⟨A9, c9, hv9⟩ := Kd.R_slice ho9; rw [List.length_append, List.length_singleton] at hv9; subst hv9; have hR9 := Lib.hid ho9; have hB9 := Lib.hid hb9; have hX9 := Lib.hid (show Blk w9 w.heap.size 28 (boxC n.op n.s0 n.s1 n.s2 n.s3 n.mn n.mx (.slice A n.kids.length c)) from (hg9.block _ hX2.out.lt (fun e => by have := hO.out _ e.symm; omega)).trans hX2.out); have hO9 := Lib.hid (own_gt hat9 hO.out hX2.out.lt); clear ho9 hb9 hg9 hat9))
            go_roundw
            case rel => exact ⟨i + 1, j, k', l ++ [s.extract dn i], by go_num, rfl, by omega, by omega, by omega, by rw [List.length_append, List.length_singleton]; omega, hunJ, hR9, hX9, hB9, hO9⟩
            case measure => simp [intOf]; omega
      · have hgd : decide ((dn : Int) ≤ (i : Int)) = false := decide_eq_false (by omega)
        have hgd2 : ¬ (dn : Int) ≤ (i : Int) := by omega
        have hmx : max (i + 1) dn = max i dn := by omega
        have hE2 : Hid (cutP G s (s.size + 1) 0 0 = l ++ cutP G s (k' + 1) (max (i + 1) dn) dn) := by rw [hmx]; exact hE
        rw [← hmx] at hk
        clear hE hmx hle3
        generalize G i = q at *
        obtain ⟨a, b⟩ := q
        simp only at hcall
        have hcallH := Lib.hid hcall
        clear hcall
        go_wp2_with (go_at_call 26; refine hcallH.out.mono ?_; rintro e w2 ⟨rfl, hB2⟩; have hB2H := Lib.hid (below_then hB.out hB.out.size hB2); have hX2 := Lib.hid (hX.out.below hB2 hX.out.lt); have hR2 := Lib.hid (Kd.R_below hR.out hB2); clear hB2)
        go_roundw
        case rel => exact ⟨i + 1, dn, k' + 1, l, by go_num, rfl, hdi, by omega, hk, by omega, hE2, hR2, hX2, hB2H, hO⟩
        case measure => simp [intOf]; omega
    · have hd : decide ((i : Int) < (s.size : Int)) = false := decide_eq_false (by omega)
      have hmx : max i dn = i := by omega
      rw [hmx] at hE hk
      obtain ⟨k', rfl⟩ : ∃ k', k = k' + 1 := ⟨k - 1, by omega⟩
      have hun : cutP G s (k' + 1) i dn = [s.extract dn s.size] := by
        show (if i < s.size then _ else _) = _
        rw [if_neg hlt]
      have hEE := Lib.hid (hE.out.trans (congrArg (l ++ ·) hun))
      clear hun hE hmx
      have g2 : (dn : Int) ≤ (s.size : Int) := by omega
      have g4 : dn ≤ s.size := by omega
      obtain ⟨A5, c5, e5⟩ := Kd.R_slice hR.out
      subst e5
      have hsz2 : w.heap.size ≤ wr.heap.size := hB.out.size
      go_wp2_with ((with_reducible refine gate_builtin (b := .append) (xs := #[.tmp 42, .tmp 46]) rfl ?_); at_builtin; go_loud (refine Kd.R_append Kd.string (w0 := w) w.heap.size rfl (.tmp 42) (.tmp 46) 33 9 (.string ⟨#[]⟩) 16 rfl Try.underlying33 info9' rfl (by decide) (by decide) (.slice A5 l.length c5) l (s.extract dn s.size) [.string (s.extract dn s.size)] (fun _ => True) (fun _ => False) rfl rfl rfl (fun _ hk => hk.elim) (fun _ _ => trivial) hR.out hB.out hsz2 (by omega) ?_; intro v9 w9 ho9 hb9 hg9 hat9; have hR9 := Lib.hid ho9; have hB9 := Lib.hid hb9; clear ho9 hb9 hg9 hat9))
      go_ret
      exact ⟨_, rfl, by rw [hEE.out]; exact hR9.out, hB9.out⟩
end Go.Proofs.Ytimhiacjoplkeaa
