/- MatchSets: its walk. Own text (printed by wip/c04/gen_sts.py). -/
import Derived.Test.YtimhiacjoplkeaaLw
namespace Go.Proofs.Ytimhiacjoplkeaa
open Go.RowKit Go.Proofs.Ytimhiacjoplkeaa.P Go.Proofs.YtimhiacjoplkeaaW.PrintWords Go.Proofs.YtimhiacjoplkeaaW.PrintLast
set_option linter.unusedVariables false
set_option linter.unusedSimpArgs false
set_option maxRecDepth 20000 in
set_option maxHeartbeats 4000000 in
theorem sets_c (ca cb s : ByteArray) (w : World) : Calls Try.prog 4 #[.string ca, .string cb, .string s] w fun e w' => e = .returned (.bool true) ∧ Below w.heap.size w w' := by
  have haw := Lib.hid (awake_c w)
  by_cases h8 : 10 < ca.size
  · have hd : decide ((10 : Int) < (ca.size : Int)) = true := decide_eq_true (by omega)
    have hd2 : decide (10 < ca.size) = true := decide_eq_true h8
    go_enter Try.func4, Try.ntmps4
    go_wp2_with (go_at_call 7; refine (haw.out).mono ?_; rintro e w1 ⟨rfl, hb1⟩)
    go_ret
    exact ⟨rfl, hb1⟩
  have hd : decide ((10 : Int) < (ca.size : Int)) = false := decide_eq_false (by omega)
  have hd2 : decide (10 < ca.size) = false := decide_eq_false h8
  by_cases h10 : 10 < cb.size
  · have hd3 : decide ((10 : Int) < (cb.size : Int)) = true := decide_eq_true (by omega)
    have hd4 : decide (10 < cb.size) = true := decide_eq_true h10
    go_enter Try.func4, Try.ntmps4
    go_wp2_with (go_at_call 7; refine (haw.out).mono ?_; rintro e w1 ⟨rfl, hb1⟩)
    go_ret
    exact ⟨rfl, hb1⟩
  have hd3 : decide ((10 : Int) < (cb.size : Int)) = false := decide_eq_false (by omega)
  have hd4 : decide (10 < cb.size) = false := decide_eq_false h10
  by_cases h14 : 14 < s.size
  · have hd5 : decide ((14 : Int) < (s.size : Int)) = true := decide_eq_true (by omega)
    have hd6 : decide (14 < s.size) = true := decide_eq_true h14
    go_enter Try.func4, Try.ntmps4
    go_wp2_with (go_at_call 7; refine (haw.out).mono ?_; rintro e w1 ⟨rfl, hb1⟩)
    go_ret
    exact ⟨rfl, hb1⟩
  have hd5 : decide ((14 : Int) < (s.size : Int)) = false := decide_eq_false (by omega)
  have hd6 : decide (14 < s.size) = false := decide_eq_false h14
  have hca : ca.size ≤ 1000 := by omega
  have hcb : cb.size ≤ 1000 := by omega
  have hs6 : s.size ≤ 1000000 := by omega
  have hsH := Lib.hid hs6
  have hma := Lib.hid (fun w => make_c ca hca w)
  have hmb := Lib.hid (fun w => make_c cb hcb w)
  clear hca hcb hs6
  go_enter Try.func4, Try.ntmps4
  go_upto_region 7 with (first
    | (go_at_call 7; refine (haw.out).mono ?_; rintro e w1 ⟨rfl, hb1⟩; have hb1H := Lib.hid hb1; clear hb1)
    | (go_at_call 8; refine (hma.out _).mono ?_; rintro e w2 ⟨n, v, rfl, hg, hN, hB⟩; obtain ⟨A1, c1, e2, hNc⟩ := hN.cells; subst e2; obtain ⟨k1, hk1⟩ : ∃ k, k = n.kids.length := ⟨_, rfl⟩; rw [← hk1] at hN ⊢; have hk1H := Lib.hid hk1; clear hk1 hNc; have hgH := Lib.hid hg; have hNH := Lib.hid hN; have hBH := Lib.hid (below_then hb1H.out hb1H.out.size hB); clear hg hN hB))
  have hX := Lib.hid (Blk.new w2 28 (ndC n (.slice A1 k1 c1)))
  have hB3 := Lib.hid (below_alloc hBH.out (.cells (ndC n (.slice A1 k1 c1)) 28))
  have hN3 := Lib.hid (hNH.out.below (below_alloc (Below.refl _ _) (.cells (ndC n (.slice A1 k1 c1)) 28)))
  clear hNH hBH hb1H haw hma
  generalize w2.alloc (.cells (ndC n (.slice A1 k1 c1)) 28) = W0 at *
  generalize w2.heap.size = b1 at *
  go_upto_region 8 with (go_at_call 8; refine (hmb.out _).mono ?_; rintro e w3 ⟨a, v, rfl, hga, hNa, hBa⟩; obtain ⟨A2, c2, e2', hNc⟩ := hNa.cells; subst e2'; obtain ⟨k2, hk2⟩ : ∃ k, k = a.kids.length := ⟨_, rfl⟩; rw [← hk2] at hNa ⊢; have hk2H := Lib.hid hk2; clear hk2; have hgaH := Lib.hid hga; have hNaH := Lib.hid hNa; have hX3 := Lib.hid (hX.out.below hBa hX.out.lt); have hB4 := Lib.hid (below_then hB3.out hB3.out.size hBa); have hN4 := Lib.hid (hN3.out.below hBa); clear hNc hNa hBa hga)
  have hS7 : Hid (St2 w (w3.alloc (.cells (ndC a (.slice A2 k2 c2)) 28)) b1 w3.heap.size n a (.slice A1 k1 c1) (.slice A2 k2 c2)) := Lib.hid ⟨hX3.out.alloc _, Blk.new w3 28 (ndC a (.slice A2 k2 c2)), hN4.out.below (below_alloc (Below.refl _ _) _), hNaH.out.below (below_alloc (Below.refl _ _) _), below_alloc hB4.out _⟩
  clear hNaH hX3 hB4 hN4 hX hB3 hN3 hmb
  generalize w3.alloc (.cells (ndC a (.slice A2 k2 c2)) 28) = X7 at *
  generalize w3.heap.size = b2 at *
  have hwf := wf_of_gd n hgH.out
  have hwfa := wf_of_gd a hgaH.out
  have h15 := Lib.hid (show ∀ (op : Int) (A : Option Addr) (m c : Nat) (ks : List Nd) (W : World), Calls Try.prog 15 #[.int .i64 op, .slice A m c] W fun e w' => e = .returned (ndVal (.mk op 0 0 0 0 0 0 ks) (.slice A m c)) ∧ Below W.heap.size W w' from fun op A m c ks W => many_c op A m c ks W)
  have h14 : ∀ x, Wf x → ∀ (W : World) v, IsN W x v → Calls Try.prog 14 #[v, .string s] W fun e w' => e = .returned (.bool (wholeP s x)) ∧ Below W.heap.size W w' := fun x hx W v h => whole_c s hsH.out x hx W v h
  have hka : ∀ k ∈ [n, a], Wf k := fun k hk => by rcases List.mem_cons.1 hk with rfl | hk; exact hwf; rw [List.mem_singleton.1 hk]; exact hwfa
  have hkn : ∀ k ∈ [n], Wf k := fun k hk => by rw [List.mem_singleton.1 hk]; exact hwf
  have h14x := h14 n hwf
  have h14y := h14 a hwfa
  have h14n := h14 (.mk 5 0 0 0 0 0 0 [n]) (wf_mk (fun h => by omega) (by omega) (by omega) hkn)
  have h14o := h14 (.mk 2 0 0 0 0 0 0 [n, a]) (wf_mk (fun h => by omega) (by omega) (by omega) hka)
  have h14a := h14 (.mk 4 0 0 0 0 0 0 [n, a]) (wf_mk (fun h => by omega) (by omega) (by omega) hka)
  rw [whole_not] at h14n
  rw [whole_alt] at h14o
  rw [whole_and] at h14a
  generalize wholeP s n = qx at *
  generalize wholeP s a = qy at *
  clear h14 hka hkn hwf hwfa
  obtain ⟨⟨f0, f1, f2, f3, f4, f5, f6, f7⟩, ⟨g0, g1, g2, g3, g4, g5, g6, g7⟩⟩ := hS7.out.cells
  replace h14x := Lib.hid h14x
  replace h14y := Lib.hid h14y
  replace h14n := Lib.hid h14n
  replace h14o := Lib.hid h14o
  replace h14a := Lib.hid h14a
  go_upto_region 9 with (fail)
  have hS8 := Lib.hid (hS7.out.alloc (.cells (two16 n a (.slice A1 k1 c1) (.slice A2 k2 c2)) 28))
  have hG8 := Lib.hid (Blk.new X7 28 (two16 n a (.slice A1 k1 c1) (.slice A2 k2 c2)))
  clear f0 f1 f2 f3 f4 f5 f6 f7 g0 g1 g2 g3 g4 g5 g6 g7
  clear hS7
  generalize X7.alloc (.cells (two16 n a (.slice A1 k1 c1) (.slice A2 k2 c2)) 28) = X8 at *
  generalize X7.heap.size = G at *
  obtain ⟨⟨f0, f1, f2, f3, f4, f5, f6, f7⟩, ⟨g0, g1, g2, g3, g4, g5, g6, g7⟩⟩ := hS8.out.cells
  go_upto_region 10 with (go_at_call 14; clear f0 f1 f2 f3 f4 f5 f6 f7 g0 g1 g2 g3 g4 g5 g6 g7; refine (h14x.out _ _ hS8.out.n1).mono ?_; rintro e X9 ⟨rfl, hbb⟩; have hS9 := Lib.hid (hS8.out.below hbb); have hG9 := Lib.hid (hG8.out.below hbb hG8.out.lt); clear hbb; obtain ⟨⟨f0, f1, f2, f3, f4, f5, f6, f7⟩, ⟨g0, g1, g2, g3, g4, g5, g6, g7⟩⟩ := hS9.out.cells)
  go_upto_region 11 with (go_at_call 14; clear f0 f1 f2 f3 f4 f5 f6 f7 g0 g1 g2 g3 g4 g5 g6 g7; refine (h14y.out _ _ hS9.out.n2).mono ?_; rintro e X10 ⟨rfl, hbb⟩; have hS10 := Lib.hid (hS9.out.below hbb); have hG10 := Lib.hid (hG9.out.below hbb hG9.out.lt); clear hbb)
  clear hS8 hG8 hS9 hG9
  have hone : ∀ (W : World), Blk W G 28 (two16 n a (.slice A1 k1 c1) (.slice A2 k2 c2)) → IsN W n (ndVal n (.slice A1 k1 c1)) → IsN W (.mk 5 0 0 0 0 0 0 [n]) (ndVal (.mk 5 0 0 0 0 0 0 [n]) (.slice (some ⟨G, 0, none⟩) 1 2)) := fun W hG hN => IsN_one 5 rfl (by omega) hG (fun t u hu => by
    have ht := (List.getElem?_eq_some_iff.1 hu).1
    show (ndCells n (.slice A1 k1 c1) ++ ndCells a (.slice A2 k2 c2)).toArray[t]? = _
    rw [List.getElem?_toArray, List.getElem?_append_left ht]; exact hu) hN
  have honeH := Lib.hid hone
  clear hone
  have h14n := h14n.out
  have h14o := h14o.out
  have h14a := h14a.out
  cases qx <;> cases qy <;> simp only [Bool.not_true, Bool.not_false, Bool.or_true, Bool.or_false, Bool.and_true, Bool.and_false] at h14n h14o h14a <;> replace h14n := Lib.hid h14n <;> replace h14o := Lib.hid h14o <;> replace h14a := Lib.hid h14a
  all_goals (go_wp2_with (first
    | (go_at_call 15; have hgo := hS14; clear hgo; refine (h15.out 4 _ _ _ [n, a] _).mono ?_; rintro e X15 ⟨rfl, hbb⟩; have hS15 := Lib.hid (hS14.out.below hbb); have hG15 := Lib.hid (hG14.out.below hbb hG14.out.lt); have hN15 := Lib.hid (IsN_two 4 hG15.out hS15.out.n1 hS15.out.n2); clear hbb)
    | (go_at_call 15; have hgo := hS12; clear hgo; refine (h15.out 2 _ _ _ [n, a] _).mono ?_; rintro e X13 ⟨rfl, hbb⟩; have hS13 := Lib.hid (hS12.out.below hbb); have hG13 := Lib.hid (hG12.out.below hbb hG12.out.lt); have hN13 := Lib.hid (IsN_two 2 hG13.out hS13.out.n1 hS13.out.n2); clear hbb)
    | (go_at_call 15; refine (h15.out 5 _ _ _ [n] _).mono ?_; rintro e X11 ⟨rfl, hbb⟩; have hS11 := Lib.hid (hS10.out.below hbb); have hG11 := Lib.hid (hG10.out.below hbb hG10.out.lt); have hN11 := Lib.hid (honeH.out _ hG11.out hS11.out.n1); clear hbb)
    | (go_at_call 14; have hgo := hN15; clear hgo; refine (h14a.out _ _ hN15.out).mono ?_; rintro e X16 ⟨rfl, hbb⟩; have hS16 := Lib.hid (hS15.out.below hbb); clear hbb)
    | (go_at_call 14; have hgo := hN13; clear hgo; refine (h14o.out _ _ hN13.out).mono ?_; rintro e X14 ⟨rfl, hbb⟩; have hS14 := Lib.hid (hS13.out.below hbb); have hG14 := Lib.hid (hG13.out.below hbb hG13.out.lt); clear hbb)
    | (go_at_call 14; refine (h14n.out _ _ hN11.out).mono ?_; rintro e X12 ⟨rfl, hbb⟩; have hS12 := Lib.hid (hS11.out.below hbb); have hG12 := Lib.hid (hG11.out.below hbb hG11.out.lt); clear hbb)))
  all_goals go_ret
  all_goals (exact ⟨rfl, hS16.out.b⟩)
end Go.Proofs.Ytimhiacjoplkeaa
