/- MatchReps: its walk. Own text (printed by wip/c04/gen_rep.py). -/
import Derived.Test.YtimhiacjoplkeaaLw
namespace Go.Proofs.Ytimhiacjoplkeaa
open Go.RowKit Go.Proofs.Ytimhiacjoplkeaa.P Go.Proofs.YtimhiacjoplkeaaW.PrintWords Go.Proofs.YtimhiacjoplkeaaW.PrintLast
set_option linter.unusedVariables false
set_option linter.unusedSimpArgs false
set_option maxRecDepth 20000 in
set_option maxHeartbeats 4000000 in
theorem reps_c (code s : ByteArray) (w : World) : Calls Try.prog 6 #[.string code, .string s] w fun e w' => e = .returned (.bool true) ∧ Below w.heap.size w w' := by
  have haw := Lib.hid (awake_c w)
  by_cases h8 : 8 < code.size
  · have hd : decide ((8 : Int) < (code.size : Int)) = true := decide_eq_true (by omega)
    have hd2 : decide (8 < code.size) = true := decide_eq_true h8
    go_enter Try.func6, Try.ntmps6
    go_wp2_with (go_at_call 7; refine (haw.out).mono ?_; rintro e w1 ⟨rfl, hb1⟩)
    go_ret
    exact ⟨rfl, hb1⟩
  have hd : decide ((8 : Int) < (code.size : Int)) = false := decide_eq_false (by omega)
  have hd2 : decide (8 < code.size) = false := decide_eq_false h8
  by_cases h12 : 12 < s.size
  · have hd3 : decide ((12 : Int) < (s.size : Int)) = true := decide_eq_true (by omega)
    have hd4 : decide (12 < s.size) = true := decide_eq_true h12
    go_enter Try.func6, Try.ntmps6
    go_wp2_with (go_at_call 7; refine (haw.out).mono ?_; rintro e w1 ⟨rfl, hb1⟩)
    go_ret
    exact ⟨rfl, hb1⟩
  have hd3 : decide ((12 : Int) < (s.size : Int)) = false := decide_eq_false (by omega)
  have hd4 : decide (12 < s.size) = false := decide_eq_false h12
  have hcs : code.size ≤ 1000 := by omega
  have hs6 : s.size ≤ 1000000 := by omega
  have hsH := Lib.hid hs6
  have hmk := Lib.hid (fun w => make_c code hcs w)
  clear hcs hs6
  go_enter Try.func6, Try.ntmps6
  go_upto_region 7 with (first
    | (go_at_call 7; refine (haw.out).mono ?_; rintro e w1 ⟨rfl, hb1⟩; have hb1H := Lib.hid hb1; clear hb1)
    | (go_at_call 8; refine (hmk.out _).mono ?_; rintro e w2 ⟨n, v, rfl, hg, hN, hB⟩; obtain ⟨A1, c1, e2, hNc⟩ := hN.cells; subst e2; obtain ⟨k1, hk1⟩ : ∃ k, k = n.kids.length := ⟨_, rfl⟩; rw [← hk1] at hN ⊢; have hk1H := Lib.hid hk1; clear hk1 hNc; have hgH := Lib.hid hg; have hNH := Lib.hid hN; have hBH := Lib.hid (below_then hb1H.out hb1H.out.size hB); clear hg hN hB))
  have hX := Lib.hid (Blk.new w2 28 (ndC n (.slice A1 k1 c1)))
  have hB3 := Lib.hid (below_alloc hBH.out (.cells (ndC n (.slice A1 k1 c1)) 28))
  have hN3 := Lib.hid (hNH.out.below (below_alloc (Below.refl _ _) (.cells (ndC n (.slice A1 k1 c1)) 28)))
  clear hNH hBH hb1H haw hmk
  generalize w2.alloc (.cells (ndC n (.slice A1 k1 c1)) 28) = W0 at *
  generalize w2.heap.size = b1 at *
  have hwf := wf_of_gd n hgH.out
  have hwfa0 : Wf (.mk 3 0 0 0 0 0 (-1) [n]) := wf_mk (fun _ => by simp) (by omega) (by omega) (fun k hk => by rw [List.mem_singleton.1 hk]; exact hwf)
  have hany := fun (x : ByteArray) (hx : x.size = 0) => whole_any 0 0 0 0 n x hx
  have hr1 := whole_rep1 s 0 0 0 0 0 0 0 0 0 0 0 0 0 0 n
  have h18a0 : ∀ (W : World), IsN W n (ndVal n (.slice A1 k1 c1)) → Calls Try.prog 18 #[ndVal n (.slice A1 k1 c1), .int .i64 0, .int .i64 (-1)] W fun e w' => ∃ v', e = .returned v' ∧ IsN w' (.mk 3 0 0 0 0 0 (-1) [n]) v' ∧ Below W.heap.size W w' := fun W h => rep_c n _ 0 (-1) W h
  generalize Nd.mk 3 0 0 0 0 0 (-1) [n] = a at hwfa0 hany hr1 h18a0
  have hwfa := hwfa0
  have h18a := Lib.hid h18a0
  clear hwfa0 h18a0
  have h18 := Lib.hid (show ∀ (lo hi : Int) (W : World), IsN W n (ndVal n (.slice A1 k1 c1)) → Calls Try.prog 18 #[ndVal n (.slice A1 k1 c1), .int .i64 lo, .int .i64 hi] W fun e w' => ∃ v', e = .returned v' ∧ IsN w' (.mk 3 0 0 0 0 lo hi [n]) v' ∧ Below W.heap.size W w' from fun lo hi W h => rep_c n _ lo hi W h)
  have h15 := Lib.hid (show ∀ (op : Int) (A : Option Addr) (m c : Nat) (ks : List Nd) (W : World), Calls Try.prog 15 #[.int .i64 op, .slice A m c] W fun e w' => e = .returned (ndVal (.mk op 0 0 0 0 0 0 ks) (.slice A m c)) ∧ Below W.heap.size W w' from fun op A m c ks W => many_c op A m c ks W)
  have h14 : ∀ x, Wf x → ∀ (W : World) v, IsN W x v → Calls Try.prog 14 #[v, .string s] W fun e w' => e = .returned (.bool (wholeP s x)) ∧ Below W.heap.size W w' := fun x hx W v h => whole_c s hsH.out x hx W v h
  have hka : ∀ k ∈ [n, a], Wf k := fun k hk => by rcases List.mem_cons.1 hk with rfl | hk; exact hwf; rw [List.mem_singleton.1 hk]; exact hwfa
  have hkb : ∀ k ∈ [n, n], Wf k := fun k hk => by rcases List.mem_cons.1 hk with rfl | hk; exact hwf; rw [List.mem_singleton.1 hk]; exact hwf
  have hkn : ∀ k ∈ [n], Wf k := fun k hk => by rw [List.mem_singleton.1 hk]; exact hwf
  have h14a := h14 (.mk 3 0 0 0 0 1 (-1) [n]) (wf_mk (fun _ => by simp) (by omega) (by omega) hkn)
  have h14b := h14 (.mk 1 0 0 0 0 0 0 [n, a]) (wf_mk (fun h => by omega) (by omega) (by omega) hka)
  rw [hr1] at h14a
  clear hr1
  have h14c := h14 (.mk 3 0 0 0 0 2 2 [n]) (wf_mk (fun _ => by simp) (by omega) (by omega) hkn)
  have h14d := h14 (.mk 1 0 0 0 0 0 0 [n, n]) (wf_mk (fun h => by omega) (by omega) (by omega) hkb)
  rw [whole_rep2 s 0 0 0 0 0 0 0 0 0 0 n] at h14c
  have h14e := h14 (.mk 3 0 0 0 0 0 1 [n]) (wf_mk (fun _ => by simp) (by omega) (by omega) hkn)
  rw [whole_rep01 s 0 0 0 0 n] at h14e
  have h14n := h14 n hwf
  have h14f : ∀ (W : World) v, IsN W a v → Calls Try.prog 14 #[v, .string ⟨#[]⟩] W fun e w' => e = .returned (.bool true) ∧ Below W.heap.size W w' := fun W v h => by
    have h := whole_c ⟨#[]⟩ (by decide) _ hwfa W v h
    rwa [hany ⟨#[]⟩ rfl] at h
  generalize wholeP s (.mk 1 0 0 0 0 0 0 [n, a]) = q8 at *
  generalize wholeP s (.mk 1 0 0 0 0 0 0 [n, n]) = q9 at *
  generalize wholeP s n = qn at *
  replace h14a := Lib.hid h14a
  replace h14b := Lib.hid h14b
  replace h14c := Lib.hid h14c
  replace h14d := Lib.hid h14d
  skip
  replace h14n := Lib.hid h14n
  replace h14f := Lib.hid h14f
  clear h14 hka hkb hkn hwf hwfa hany
  obtain ⟨e0, e1, e2, e3, e4, e5, e6, e7⟩ := cells8_of hX.out
  go_upto_region 8 with (go_at_call 18; refine (h18a.out _ hN3.out).mono ?_; rintro e w3 ⟨v3, rfl, hNa, hBa⟩; obtain ⟨A2, c2, e2', hNc⟩ := hNa.cells; subst e2'; obtain ⟨k2, hk2⟩ : ∃ k, k = a.kids.length := ⟨_, rfl⟩; rw [← hk2] at hNa ⊢; have hk2H := Lib.hid hk2; clear hk2; have hNaH := Lib.hid hNa; have hX3 := Lib.hid (hX.out.below hBa hX.out.lt); have hB4 := Lib.hid (below_then hB3.out hB3.out.size hBa); have hN4 := Lib.hid (hN3.out.below hBa); clear hNc hNa hBa)
  clear e0 e1 e2 e3 e4 e5 e6 e7
  have hS7 : Hid (St2 w (w3.alloc (.cells (ndC a (.slice A2 k2 c2)) 28)) b1 w3.heap.size n a (.slice A1 k1 c1) (.slice A2 k2 c2)) := Lib.hid ⟨hX3.out.alloc _, Blk.new w3 28 (ndC a (.slice A2 k2 c2)), hN4.out.below (below_alloc (Below.refl _ _) _), hNaH.out.below (below_alloc (Below.refl _ _) _), below_alloc hB4.out _⟩
  clear hNaH hX3 hB4 hN4 hX hB3 hN3 h18a
  generalize w3.alloc (.cells (ndC a (.slice A2 k2 c2)) 28) = X7 at *
  generalize w3.heap.size = b2 at *
  refine start_ (n := 12) (S := (fun w' => cellsN w' b1 n (.slice A1 k1 c1) ∧ cellsN w' b2 a (.slice A2 k2 c2))) (ds := []) #[false, false, false, false, false, false, false, false, false, false, false, false] (by kernel_rfl) rfl rfl ?_ (fun hHeld => ?_)
  · exact hS7.out.cells
  have hS0 := Lib.hid hS7.out.drew
  clear hS7
  generalize (X7).drew = X0 at *
  refine take_ (i := 0) (N := (some 26)) (v := ?_) (a' := ?_) #[true, false, false, false, false, false, false, false, false, false, false, false] rfl rfl (by kernel_rfl) (fun _ _ _ h => h) (Or.inl ⟨by rfl, ?_⟩) hHeld ?_ ?_
  rotate_left
  · intro w' ⟨⟨e0, e1, e2, e3, e4, e5, e6, e7⟩, _⟩
    go_simp
    with_reducible rfl
  rotate_left
  · simp only [Act.put, List.setIfInBounds_toArray, List.set_cons_zero, List.set_cons_succ, i64_w, i32_w]
    rfl
  refine pure_ (i := 2) (N := (some 28)) (v := ?_) (a' := ?_) #[true, false, true, false, false, false, false, false, false, false, false, false] rfl rfl (by kernel_rfl) (fun _ _ _ h => h) (Or.inl ⟨by rfl, ?_⟩) ?_ ?_
  rotate_left
  · intro w'
    go_simp
    with_reducible rfl
  rotate_left
  · simp only [Act.put, List.setIfInBounds_toArray, List.set_cons_zero, List.set_cons_succ, i64_w, i32_w]
    rfl
  refine take_ (i := 4) (N := (some 30)) (v := ?_) (a' := ?_) #[true, false, true, false, true, false, false, false, false, false, false, false] rfl rfl (by kernel_rfl) (fun _ _ _ h => h) (Or.inl ⟨by rfl, ?_⟩) hHeld ?_ ?_
  rotate_left
  · intro w' ⟨⟨e0, e1, e2, e3, e4, e5, e6, e7⟩, _⟩
    go_simp
    with_reducible rfl
  rotate_left
  · simp only [Act.put, List.setIfInBounds_toArray, List.set_cons_zero, List.set_cons_succ, i64_w, i32_w]
    rfl
  refine take_ (i := 5) (N := (some 31)) (v := ?_) (a' := ?_) #[true, false, true, false, true, true, false, false, false, false, false, false] rfl rfl (by kernel_rfl) (fun _ _ _ h => h) (Or.inl ⟨by rfl, ?_⟩) hHeld ?_ ?_
  rotate_left
  · intro w' ⟨_, ⟨e0, e1, e2, e3, e4, e5, e6, e7⟩⟩
    go_simp
    with_reducible rfl
  rotate_left
  · simp only [Act.put, List.setIfInBounds_toArray, List.set_cons_zero, List.set_cons_succ, i64_w, i32_w]
    rfl
  refine pure_ (i := 8) (N := (some 34)) (v := ?_) (a' := ?_) #[true, false, true, false, true, true, false, false, true, false, false, false] rfl rfl (by kernel_rfl) (fun _ _ _ h => h) (Or.inl ⟨by rfl, ?_⟩) ?_ ?_
  rotate_left
  · intro w'
    go_simp
    with_reducible rfl
  rotate_left
  · simp only [Act.put, List.setIfInBounds_toArray, List.set_cons_zero, List.set_cons_succ, i64_w, i32_w]
    rfl
  refine join_ (σ := Value × Nat) 4 #[true, true, true, true, true, true, true, false, true, false, false, false] (fun s_ => [(27, s_.1), (29, .bool q8), (32, .slice (some ⟨s_.2, 0, none⟩) 2 2)]) (fun s_ w' => St2 w w' b1 b2 n a (.slice A1 k1 c1) (.slice A2 k2 c2) ∧ Blk w' s_.2 28 (two16 n a (.slice A1 k1 c1) (.slice A2 k2 c2))) ?_ ?_
  rotate_left
  · intro hCont
    refine two_ (i := 1) (j := 6) (Ni := (some 27)) (Nj := (some 32)) #[true, true, true, false, true, true, false, false, true, false, false, false] #[true, false, true, false, true, true, true, false, true, false, false, false] rfl rfl rfl rfl (by kernel_rfl) (by decide) (by decide) (fun K hK => ?_) (fun K hK => ?_)
    · skip
      refine goes_ Try.func18 (by kernel_rfl) rfl #[ndVal n (.slice A1 k1 c1), .int .i64 1, .int .i64 (-1)] (by rfl) rfl rfl (by simp only [List.map_toArray, List.map_cons, List.map_nil]; rfl) ?_
      refine (h18.out 1 (-1) _ hS0.out.n1).mono ?_
      rintro e X1 ⟨v', rfl, hN', hbb⟩
      refine ⟨_, rfl, ?_⟩
      have h1S := Lib.hid (hS0.out.below hbb)
      have h1N := Lib.hid hN'
      clear hbb hN'
      refine hK.out _ _ h1S.out.cells (fun hHeld => ?_)
      clear hK K
      refine norm_ (a' := ?_) ?_ ?_
      rotate_left
      · show Act.put _ (some 27) _ = _
        simp only [Act.put, List.setIfInBounds_toArray, List.set_cons_zero, List.set_cons_succ, i64_w, i32_w]
        rfl
      refine two_ (i := 3) (j := 6) (Ni := (some 29)) (Nj := (some 32)) #[true, true, true, true, true, true, false, false, true, false, false, false] #[true, true, true, false, true, true, true, false, true, false, false, false] rfl rfl rfl rfl (by kernel_rfl) (by decide) (by decide) (fun K hK => ?_) (fun K hK => ?_)
      · skip
        refine goes_ Try.func14 (by kernel_rfl) rfl #[v', .string s] (by rfl) rfl rfl (by simp only [List.map_toArray, List.map_cons, List.map_nil]; rfl) ?_
        refine (h14a.out _ _ h1N.out).mono ?_
        rintro e X2 ⟨rfl, hbb⟩
        refine ⟨_, rfl, ?_⟩
        have h2S := Lib.hid (h1S.out.below hbb)
        clear hbb
        refine hK.out _ _ h2S.out.cells (fun hHeld => ?_)
        clear hK K
        refine norm_ (a' := ?_) ?_ ?_
        rotate_left
        · show Act.put _ (some 29) _ = _
          simp only [Act.put, List.setIfInBounds_toArray, List.set_cons_zero, List.set_cons_succ, i64_w, i32_w]
          rfl
        refine one_ (i := 6) (N := (some 32)) #[true, true, true, true, true, true, true, false, true, false, false, false] rfl rfl (by kernel_rfl) (by decide) (fun K hK => ?_)
        refine value_ (w1 := ?_) (v := ?_) (by rfl) rfl ?_ ?_
        rotate_left 2
        · go_simp
          constructor
          · rfl
          · rfl
        have h3S := Lib.hid (h2S.out.alloc (.cells (two16 n a (.slice A1 k1 c1) (.slice A2 k2 c2)) 28))
        have h3G := Lib.hid (Blk.new X2 28 (two16 n a (.slice A1 k1 c1) (.slice A2 k2 c2)))
        refine hK.out _ _ h3S.out.cells (fun hHeld => ?_)
        clear hK K
        refine norm_ (a' := ?_) ?_ ?_
        rotate_left
        · show Act.put _ (some 32) _ = _
          simp only [Act.put, List.setIfInBounds_toArray, List.set_cons_zero, List.set_cons_succ, i64_w, i32_w]
          rfl
        exact norm_ (by simp only [putAll, Act.put, List.setIfInBounds_toArray, List.set_cons_zero, List.set_cons_succ]) (hCont (v', X2.heap.size) _ ⟨h3S.out, h3G.out⟩)
      · skip
        refine value_ (w1 := ?_) (v := ?_) (by rfl) rfl ?_ ?_
        rotate_left 2
        · go_simp
          constructor
          · rfl
          · rfl
        have h2S := Lib.hid (h1S.out.alloc (.cells (two16 n a (.slice A1 k1 c1) (.slice A2 k2 c2)) 28))
        have h2G := Lib.hid (Blk.new X1 28 (two16 n a (.slice A1 k1 c1) (.slice A2 k2 c2)))
        have h2N := Lib.hid (h1N.out.below (below_alloc (Below.refl _ _) (.cells (two16 n a (.slice A1 k1 c1) (.slice A2 k2 c2)) 28)))
        refine hK.out _ _ h2S.out.cells (fun hHeld => ?_)
        clear hK K
        refine norm_ (a' := ?_) ?_ ?_
        rotate_left
        · show Act.put _ (some 32) _ = _
          simp only [Act.put, List.setIfInBounds_toArray, List.set_cons_zero, List.set_cons_succ, i64_w, i32_w]
          rfl
        generalize X1.alloc (.cells (two16 n a (.slice A1 k1 c1) (.slice A2 k2 c2)) 28) = X2 at *
        generalize X1.heap.size = G at *
        refine one_ (i := 3) (N := (some 29)) #[true, true, true, true, true, true, true, false, true, false, false, false] rfl rfl (by kernel_rfl) (by decide) (fun K hK => ?_)
        refine goes_ Try.func14 (by kernel_rfl) rfl #[v', .string s] (by rfl) rfl rfl (by simp only [List.map_toArray, List.map_cons, List.map_nil]; rfl) ?_
        refine (h14a.out _ _ h2N.out).mono ?_
        rintro e X3 ⟨rfl, hbb⟩
        refine ⟨_, rfl, ?_⟩
        have h3S := Lib.hid (h2S.out.below hbb)
        have h3G := Lib.hid (h2G.out.below hbb h2G.out.lt)
        clear hbb
        refine hK.out _ _ h3S.out.cells (fun hHeld => ?_)
        clear hK K
        refine norm_ (a' := ?_) ?_ ?_
        rotate_left
        · show Act.put _ (some 29) _ = _
          simp only [Act.put, List.setIfInBounds_toArray, List.set_cons_zero, List.set_cons_succ, i64_w, i32_w]
          rfl
        exact norm_ (by simp only [putAll, Act.put, List.setIfInBounds_toArray, List.set_cons_zero, List.set_cons_succ]) (hCont (v', G) _ ⟨h3S.out, h3G.out⟩)
    · skip
      refine value_ (w1 := ?_) (v := ?_) (by rfl) rfl ?_ ?_
      rotate_left 2
      · go_simp
        constructor
        · rfl
        · rfl
      have h1S := Lib.hid (hS0.out.alloc (.cells (two16 n a (.slice A1 k1 c1) (.slice A2 k2 c2)) 28))
      have h1G := Lib.hid (Blk.new X0 28 (two16 n a (.slice A1 k1 c1) (.slice A2 k2 c2)))
      refine hK.out _ _ h1S.out.cells (fun hHeld => ?_)
      clear hK K
      refine norm_ (a' := ?_) ?_ ?_
      rotate_left
      · show Act.put _ (some 32) _ = _
        simp only [Act.put, List.setIfInBounds_toArray, List.set_cons_zero, List.set_cons_succ, i64_w, i32_w]
        rfl
      generalize X0.alloc (.cells (two16 n a (.slice A1 k1 c1) (.slice A2 k2 c2)) 28) = X1 at *
      generalize X0.heap.size = G at *
      refine one_ (i := 1) (N := (some 27)) #[true, true, true, false, true, true, true, false, true, false, false, false] rfl rfl (by kernel_rfl) (by decide) (fun K hK => ?_)
      refine goes_ Try.func18 (by kernel_rfl) rfl #[ndVal n (.slice A1 k1 c1), .int .i64 1, .int .i64 (-1)] (by rfl) rfl rfl (by simp only [List.map_toArray, List.map_cons, List.map_nil]; rfl) ?_
      refine (h18.out 1 (-1) _ h1S.out.n1).mono ?_
      rintro e X2 ⟨v', rfl, hN', hbb⟩
      refine ⟨_, rfl, ?_⟩
      have h2S := Lib.hid (h1S.out.below hbb)
      have h2N := Lib.hid hN'
      have h2G := Lib.hid (h1G.out.below hbb h1G.out.lt)
      clear hbb hN'
      refine hK.out _ _ h2S.out.cells (fun hHeld => ?_)
      clear hK K
      refine norm_ (a' := ?_) ?_ ?_
      rotate_left
      · show Act.put _ (some 27) _ = _
        simp only [Act.put, List.setIfInBounds_toArray, List.set_cons_zero, List.set_cons_succ, i64_w, i32_w]
        rfl
      refine one_ (i := 3) (N := (some 29)) #[true, true, true, true, true, true, true, false, true, false, false, false] rfl rfl (by kernel_rfl) (by decide) (fun K hK => ?_)
      refine goes_ Try.func14 (by kernel_rfl) rfl #[v', .string s] (by rfl) rfl rfl (by simp only [List.map_toArray, List.map_cons, List.map_nil]; rfl) ?_
      refine (h14a.out _ _ h2N.out).mono ?_
      rintro e X3 ⟨rfl, hbb⟩
      refine ⟨_, rfl, ?_⟩
      have h3S := Lib.hid (h2S.out.below hbb)
      have h3G := Lib.hid (h2G.out.below hbb h2G.out.lt)
      clear hbb
      refine hK.out _ _ h3S.out.cells (fun hHeld => ?_)
      clear hK K
      refine norm_ (a' := ?_) ?_ ?_
      rotate_left
      · show Act.put _ (some 29) _ = _
        simp only [Act.put, List.setIfInBounds_toArray, List.set_cons_zero, List.set_cons_succ, i64_w, i32_w]
        rfl
      exact norm_ (by simp only [putAll, Act.put, List.setIfInBounds_toArray, List.set_cons_zero, List.set_cons_succ]) (hCont (v', G) _ ⟨h3S.out, h3G.out⟩)
  rintro ⟨v3, G⟩ X4 ⟨hS4', hG4'⟩
  refine norm_ (a' := ?_) ?_ ?_
  rotate_left
  · simp only [putAll, Act.put, List.setIfInBounds_toArray, List.set_cons_zero, List.set_cons_succ]
    rfl
  have hS4 := Lib.hid hS4'
  have hG4 := Lib.hid hG4'
  clear hS4' hG4' hS0
  refine one_ (i := 7) (N := (some 33)) #[true, true, true, true, true, true, true, true, true, false, false, false] rfl rfl (by kernel_rfl) (by decide) (fun K hK => ?_)
  refine goes_ Try.func15 (by kernel_rfl) rfl #[.int .i64 1, .slice (some ⟨G, 0, none⟩) 2 2] (by rfl) rfl rfl (by simp only [List.map_toArray, List.map_cons, List.map_nil]; rfl) ?_
  refine (h15.out 1 (some ⟨G, 0, none⟩) 2 2 [n, a] _).mono ?_
  rintro e X5 ⟨rfl, hbb⟩
  refine ⟨_, rfl, ?_⟩
  have hS5 := Lib.hid (hS4.out.below hbb)
  have hN5 := Lib.hid (IsN_two 1 (hG4.out.below hbb hG4.out.lt) hS5.out.n1 hS5.out.n2)
  clear hbb hS4 hG4
  refine hK.out _ _ hS5.out.cells (fun hHeld => ?_)
  clear hK K
  refine norm_ (a' := ?_) ?_ ?_
  rotate_left
  · show Act.put _ (some 33) _ = _
    simp only [Act.put, List.setIfInBounds_toArray, List.set_cons_zero, List.set_cons_succ, i64_w, i32_w]
    rfl
  refine one_ (i := 9) (N := (some 35)) #[true, true, true, true, true, true, true, true, true, true, false, false] rfl rfl (by kernel_rfl) (by decide) (fun K hK => ?_)
  refine goes_ Try.func14 (by kernel_rfl) rfl #[ndVal (.mk 1 0 0 0 0 0 0 [n, a]) (.slice (some ⟨G, 0, none⟩) 2 2), .string s] (by rfl) rfl rfl (by simp only [List.map_toArray, List.map_cons, List.map_nil]; rfl) ?_
  refine (h14b.out _ _ hN5.out).mono ?_
  rintro e X6 ⟨rfl, hbb⟩
  refine ⟨_, rfl, ?_⟩
  have h6S := Lib.hid (hS5.out.below hbb)
  clear hbb hS5 hN5
  refine hK.out _ _ h6S.out.cells (fun hHeld => ?_)
  clear hK K
  refine norm_ (a' := ?_) ?_ ?_
  rotate_left
  · show Act.put _ (some 35) _ = _
    simp only [Act.put, List.setIfInBounds_toArray, List.set_cons_zero, List.set_cons_succ, i64_w, i32_w]
    rfl
  refine pure_ (i := 10) (N := (some 36)) (v := ?_) (a' := ?_) #[true, true, true, true, true, true, true, true, true, true, true, false] rfl rfl (by kernel_rfl) (fun _ _ _ h => h) (Or.inl ⟨by rfl, ?_⟩) ?_ ?_
  rotate_left
  · intro w'
    go_simp
    with_reducible rfl
  rotate_left
  · simp only [Act.put, List.setIfInBounds_toArray, List.set_cons_zero, List.set_cons_succ, i64_w, i32_w]
    rfl
  refine pure_ (i := 11) (N := (some 8)) (v := ?_) (a' := ?_) #[true, true, true, true, true, true, true, true, true, true, true, true] rfl rfl (by kernel_rfl) (fun _ _ _ h => h) (Or.inl ⟨by rfl, ?_⟩) ?_ ?_
  rotate_left
  · intro w'
    go_simp
    with_reducible rfl
  rotate_left
  · simp only [Act.put, List.setIfInBounds_toArray, List.set_cons_zero, List.set_cons_succ, i64_w, i32_w]
    rfl
  refine done_ (by kernel_rfl) ?_
  clear hHeld
  have hS8 := Lib.hid h6S.out
  clear h6S
  generalize X6 = X8 at *
  go_upto_region 9 with (fail)
  refine start_ (n := 12) (S := (fun w' => cellsN w' b1 n (.slice A1 k1 c1) ∧ cellsN w' b2 a (.slice A2 k2 c2))) (ds := []) #[false, false, false, false, false, false, false, false, false, false, false, false] (by kernel_rfl) rfl rfl ?_ (fun hHeld => ?_)
  · exact hS8.out.cells
  have hS0 := Lib.hid hS8.out.drew
  clear hS8
  generalize (X8).drew = X0 at *
  refine take_ (i := 0) (N := (some 37)) (v := ?_) (a' := ?_) #[true, false, false, false, false, false, false, false, false, false, false, false] rfl rfl (by kernel_rfl) (fun _ _ _ h => h) (Or.inl ⟨by rfl, ?_⟩) hHeld ?_ ?_
  rotate_left
  · intro w' ⟨⟨e0, e1, e2, e3, e4, e5, e6, e7⟩, _⟩
    go_simp
    with_reducible rfl
  rotate_left
  · simp only [Act.put, List.setIfInBounds_toArray, List.set_cons_zero, List.set_cons_succ, i64_w, i32_w]
    rfl
  refine pure_ (i := 2) (N := (some 39)) (v := ?_) (a' := ?_) #[true, false, true, false, false, false, false, false, false, false, false, false] rfl rfl (by kernel_rfl) (fun _ _ _ h => h) (Or.inl ⟨by rfl, ?_⟩) ?_ ?_
  rotate_left
  · intro w'
    go_simp
    with_reducible rfl
  rotate_left
  · simp only [Act.put, List.setIfInBounds_toArray, List.set_cons_zero, List.set_cons_succ, i64_w, i32_w]
    rfl
  refine take_ (i := 4) (N := (some 41)) (v := ?_) (a' := ?_) #[true, false, true, false, true, false, false, false, false, false, false, false] rfl rfl (by kernel_rfl) (fun _ _ _ h => h) (Or.inl ⟨by rfl, ?_⟩) hHeld ?_ ?_
  rotate_left
  · intro w' ⟨⟨e0, e1, e2, e3, e4, e5, e6, e7⟩, _⟩
    go_simp
    with_reducible rfl
  rotate_left
  · simp only [Act.put, List.setIfInBounds_toArray, List.set_cons_zero, List.set_cons_succ, i64_w, i32_w]
    rfl
  refine take_ (i := 5) (N := (some 42)) (v := ?_) (a' := ?_) #[true, false, true, false, true, true, false, false, false, false, false, false] rfl rfl (by kernel_rfl) (fun _ _ _ h => h) (Or.inl ⟨by rfl, ?_⟩) hHeld ?_ ?_
  rotate_left
  · intro w' ⟨⟨e0, e1, e2, e3, e4, e5, e6, e7⟩, _⟩
    go_simp
    with_reducible rfl
  rotate_left
  · simp only [Act.put, List.setIfInBounds_toArray, List.set_cons_zero, List.set_cons_succ, i64_w, i32_w]
    rfl
  refine pure_ (i := 8) (N := (some 45)) (v := ?_) (a' := ?_) #[true, false, true, false, true, true, false, false, true, false, false, false] rfl rfl (by kernel_rfl) (fun _ _ _ h => h) (Or.inl ⟨by rfl, ?_⟩) ?_ ?_
  rotate_left
  · intro w'
    go_simp
    with_reducible rfl
  rotate_left
  · simp only [Act.put, List.setIfInBounds_toArray, List.set_cons_zero, List.set_cons_succ, i64_w, i32_w]
    rfl
  refine join_ (σ := Value × Nat) 4 #[true, true, true, true, true, true, true, false, true, false, false, false] (fun s_ => [(38, s_.1), (40, .bool q9), (43, .slice (some ⟨s_.2, 0, none⟩) 2 2)]) (fun s_ w' => St2 w w' b1 b2 n a (.slice A1 k1 c1) (.slice A2 k2 c2) ∧ Blk w' s_.2 28 (two16 n n (.slice A1 k1 c1) (.slice A1 k1 c1))) ?_ ?_
  rotate_left
  · intro hCont
    refine two_ (i := 1) (j := 6) (Ni := (some 38)) (Nj := (some 43)) #[true, true, true, false, true, true, false, false, true, false, false, false] #[true, false, true, false, true, true, true, false, true, false, false, false] rfl rfl rfl rfl (by kernel_rfl) (by decide) (by decide) (fun K hK => ?_) (fun K hK => ?_)
    · skip
      refine goes_ Try.func18 (by kernel_rfl) rfl #[ndVal n (.slice A1 k1 c1), .int .i64 2, .int .i64 2] (by rfl) rfl rfl (by simp only [List.map_toArray, List.map_cons, List.map_nil]; rfl) ?_
      refine (h18.out 2 2 _ hS0.out.n1).mono ?_
      rintro e X1 ⟨v', rfl, hN', hbb⟩
      refine ⟨_, rfl, ?_⟩
      have h1S := Lib.hid (hS0.out.below hbb)
      have h1N := Lib.hid hN'
      clear hbb hN'
      refine hK.out _ _ h1S.out.cells (fun hHeld => ?_)
      clear hK K
      refine norm_ (a' := ?_) ?_ ?_
      rotate_left
      · show Act.put _ (some 38) _ = _
        simp only [Act.put, List.setIfInBounds_toArray, List.set_cons_zero, List.set_cons_succ, i64_w, i32_w]
        rfl
      refine two_ (i := 3) (j := 6) (Ni := (some 40)) (Nj := (some 43)) #[true, true, true, true, true, true, false, false, true, false, false, false] #[true, true, true, false, true, true, true, false, true, false, false, false] rfl rfl rfl rfl (by kernel_rfl) (by decide) (by decide) (fun K hK => ?_) (fun K hK => ?_)
      · skip
        refine goes_ Try.func14 (by kernel_rfl) rfl #[v', .string s] (by rfl) rfl rfl (by simp only [List.map_toArray, List.map_cons, List.map_nil]; rfl) ?_
        refine (h14c.out _ _ h1N.out).mono ?_
        rintro e X2 ⟨rfl, hbb⟩
        refine ⟨_, rfl, ?_⟩
        have h2S := Lib.hid (h1S.out.below hbb)
        clear hbb
        refine hK.out _ _ h2S.out.cells (fun hHeld => ?_)
        clear hK K
        refine norm_ (a' := ?_) ?_ ?_
        rotate_left
        · show Act.put _ (some 40) _ = _
          simp only [Act.put, List.setIfInBounds_toArray, List.set_cons_zero, List.set_cons_succ, i64_w, i32_w]
          rfl
        refine one_ (i := 6) (N := (some 43)) #[true, true, true, true, true, true, true, false, true, false, false, false] rfl rfl (by kernel_rfl) (by decide) (fun K hK => ?_)
        refine value_ (w1 := ?_) (v := ?_) (by rfl) rfl ?_ ?_
        rotate_left 2
        · go_simp
          constructor
          · rfl
          · rfl
        have h3S := Lib.hid (h2S.out.alloc (.cells (two16 n n (.slice A1 k1 c1) (.slice A1 k1 c1)) 28))
        have h3G := Lib.hid (Blk.new X2 28 (two16 n n (.slice A1 k1 c1) (.slice A1 k1 c1)))
        refine hK.out _ _ h3S.out.cells (fun hHeld => ?_)
        clear hK K
        refine norm_ (a' := ?_) ?_ ?_
        rotate_left
        · show Act.put _ (some 43) _ = _
          simp only [Act.put, List.setIfInBounds_toArray, List.set_cons_zero, List.set_cons_succ, i64_w, i32_w]
          rfl
        exact norm_ (by simp only [putAll, Act.put, List.setIfInBounds_toArray, List.set_cons_zero, List.set_cons_succ]) (hCont (v', X2.heap.size) _ ⟨h3S.out, h3G.out⟩)
      · skip
        refine value_ (w1 := ?_) (v := ?_) (by rfl) rfl ?_ ?_
        rotate_left 2
        · go_simp
          constructor
          · rfl
          · rfl
        have h2S := Lib.hid (h1S.out.alloc (.cells (two16 n n (.slice A1 k1 c1) (.slice A1 k1 c1)) 28))
        have h2G := Lib.hid (Blk.new X1 28 (two16 n n (.slice A1 k1 c1) (.slice A1 k1 c1)))
        have h2N := Lib.hid (h1N.out.below (below_alloc (Below.refl _ _) (.cells (two16 n n (.slice A1 k1 c1) (.slice A1 k1 c1)) 28)))
        refine hK.out _ _ h2S.out.cells (fun hHeld => ?_)
        clear hK K
        refine norm_ (a' := ?_) ?_ ?_
        rotate_left
        · show Act.put _ (some 43) _ = _
          simp only [Act.put, List.setIfInBounds_toArray, List.set_cons_zero, List.set_cons_succ, i64_w, i32_w]
          rfl
        generalize X1.alloc (.cells (two16 n n (.slice A1 k1 c1) (.slice A1 k1 c1)) 28) = X2 at *
        generalize X1.heap.size = G at *
        refine one_ (i := 3) (N := (some 40)) #[true, true, true, true, true, true, true, false, true, false, false, false] rfl rfl (by kernel_rfl) (by decide) (fun K hK => ?_)
        refine goes_ Try.func14 (by kernel_rfl) rfl #[v', .string s] (by rfl) rfl rfl (by simp only [List.map_toArray, List.map_cons, List.map_nil]; rfl) ?_
        refine (h14c.out _ _ h2N.out).mono ?_
        rintro e X3 ⟨rfl, hbb⟩
        refine ⟨_, rfl, ?_⟩
        have h3S := Lib.hid (h2S.out.below hbb)
        have h3G := Lib.hid (h2G.out.below hbb h2G.out.lt)
        clear hbb
        refine hK.out _ _ h3S.out.cells (fun hHeld => ?_)
        clear hK K
        refine norm_ (a' := ?_) ?_ ?_
        rotate_left
        · show Act.put _ (some 40) _ = _
          simp only [Act.put, List.setIfInBounds_toArray, List.set_cons_zero, List.set_cons_succ, i64_w, i32_w]
          rfl
        exact norm_ (by simp only [putAll, Act.put, List.setIfInBounds_toArray, List.set_cons_zero, List.set_cons_succ]) (hCont (v', G) _ ⟨h3S.out, h3G.out⟩)
    · skip
      refine value_ (w1 := ?_) (v := ?_) (by rfl) rfl ?_ ?_
      rotate_left 2
      · go_simp
        constructor
        · rfl
        · rfl
      have h1S := Lib.hid (hS0.out.alloc (.cells (two16 n n (.slice A1 k1 c1) (.slice A1 k1 c1)) 28))
      have h1G := Lib.hid (Blk.new X0 28 (two16 n n (.slice A1 k1 c1) (.slice A1 k1 c1)))
      refine hK.out _ _ h1S.out.cells (fun hHeld => ?_)
      clear hK K
      refine norm_ (a' := ?_) ?_ ?_
      rotate_left
      · show Act.put _ (some 43) _ = _
        simp only [Act.put, List.setIfInBounds_toArray, List.set_cons_zero, List.set_cons_succ, i64_w, i32_w]
        rfl
      generalize X0.alloc (.cells (two16 n n (.slice A1 k1 c1) (.slice A1 k1 c1)) 28) = X1 at *
      generalize X0.heap.size = G at *
      refine one_ (i := 1) (N := (some 38)) #[true, true, true, false, true, true, true, false, true, false, false, false] rfl rfl (by kernel_rfl) (by decide) (fun K hK => ?_)
      refine goes_ Try.func18 (by kernel_rfl) rfl #[ndVal n (.slice A1 k1 c1), .int .i64 2, .int .i64 2] (by rfl) rfl rfl (by simp only [List.map_toArray, List.map_cons, List.map_nil]; rfl) ?_
      refine (h18.out 2 2 _ h1S.out.n1).mono ?_
      rintro e X2 ⟨v', rfl, hN', hbb⟩
      refine ⟨_, rfl, ?_⟩
      have h2S := Lib.hid (h1S.out.below hbb)
      have h2N := Lib.hid hN'
      have h2G := Lib.hid (h1G.out.below hbb h1G.out.lt)
      clear hbb hN'
      refine hK.out _ _ h2S.out.cells (fun hHeld => ?_)
      clear hK K
      refine norm_ (a' := ?_) ?_ ?_
      rotate_left
      · show Act.put _ (some 38) _ = _
        simp only [Act.put, List.setIfInBounds_toArray, List.set_cons_zero, List.set_cons_succ, i64_w, i32_w]
        rfl
      refine one_ (i := 3) (N := (some 40)) #[true, true, true, true, true, true, true, false, true, false, false, false] rfl rfl (by kernel_rfl) (by decide) (fun K hK => ?_)
      refine goes_ Try.func14 (by kernel_rfl) rfl #[v', .string s] (by rfl) rfl rfl (by simp only [List.map_toArray, List.map_cons, List.map_nil]; rfl) ?_
      refine (h14c.out _ _ h2N.out).mono ?_
      rintro e X3 ⟨rfl, hbb⟩
      refine ⟨_, rfl, ?_⟩
      have h3S := Lib.hid (h2S.out.below hbb)
      have h3G := Lib.hid (h2G.out.below hbb h2G.out.lt)
      clear hbb
      refine hK.out _ _ h3S.out.cells (fun hHeld => ?_)
      clear hK K
      refine norm_ (a' := ?_) ?_ ?_
      rotate_left
      · show Act.put _ (some 40) _ = _
        simp only [Act.put, List.setIfInBounds_toArray, List.set_cons_zero, List.set_cons_succ, i64_w, i32_w]
        rfl
      exact norm_ (by simp only [putAll, Act.put, List.setIfInBounds_toArray, List.set_cons_zero, List.set_cons_succ]) (hCont (v', G) _ ⟨h3S.out, h3G.out⟩)
  rintro ⟨v3, G⟩ X4 ⟨hS4', hG4'⟩
  refine norm_ (a' := ?_) ?_ ?_
  rotate_left
  · simp only [putAll, Act.put, List.setIfInBounds_toArray, List.set_cons_zero, List.set_cons_succ]
    rfl
  have hS4 := Lib.hid hS4'
  have hG4 := Lib.hid hG4'
  clear hS4' hG4' hS0
  refine one_ (i := 7) (N := (some 44)) #[true, true, true, true, true, true, true, true, true, false, false, false] rfl rfl (by kernel_rfl) (by decide) (fun K hK => ?_)
  refine goes_ Try.func15 (by kernel_rfl) rfl #[.int .i64 1, .slice (some ⟨G, 0, none⟩) 2 2] (by rfl) rfl rfl (by simp only [List.map_toArray, List.map_cons, List.map_nil]; rfl) ?_
  refine (h15.out 1 (some ⟨G, 0, none⟩) 2 2 [n, n] _).mono ?_
  rintro e X5 ⟨rfl, hbb⟩
  refine ⟨_, rfl, ?_⟩
  have hS5 := Lib.hid (hS4.out.below hbb)
  have hN5 := Lib.hid (IsN_two 1 (hG4.out.below hbb hG4.out.lt) hS5.out.n1 hS5.out.n1)
  clear hbb hS4 hG4
  refine hK.out _ _ hS5.out.cells (fun hHeld => ?_)
  clear hK K
  refine norm_ (a' := ?_) ?_ ?_
  rotate_left
  · show Act.put _ (some 44) _ = _
    simp only [Act.put, List.setIfInBounds_toArray, List.set_cons_zero, List.set_cons_succ, i64_w, i32_w]
    rfl
  refine one_ (i := 9) (N := (some 46)) #[true, true, true, true, true, true, true, true, true, true, false, false] rfl rfl (by kernel_rfl) (by decide) (fun K hK => ?_)
  refine goes_ Try.func14 (by kernel_rfl) rfl #[ndVal (.mk 1 0 0 0 0 0 0 [n, n]) (.slice (some ⟨G, 0, none⟩) 2 2), .string s] (by rfl) rfl rfl (by simp only [List.map_toArray, List.map_cons, List.map_nil]; rfl) ?_
  refine (h14d.out _ _ hN5.out).mono ?_
  rintro e X6 ⟨rfl, hbb⟩
  refine ⟨_, rfl, ?_⟩
  have h6S := Lib.hid (hS5.out.below hbb)
  clear hbb hS5 hN5
  refine hK.out _ _ h6S.out.cells (fun hHeld => ?_)
  clear hK K
  refine norm_ (a' := ?_) ?_ ?_
  rotate_left
  · show Act.put _ (some 46) _ = _
    simp only [Act.put, List.setIfInBounds_toArray, List.set_cons_zero, List.set_cons_succ, i64_w, i32_w]
    rfl
  refine pure_ (i := 10) (N := (some 47)) (v := ?_) (a' := ?_) #[true, true, true, true, true, true, true, true, true, true, true, false] rfl rfl (by kernel_rfl) (fun _ _ _ h => h) (Or.inl ⟨by rfl, ?_⟩) ?_ ?_
  rotate_left
  · intro w'
    go_simp
    with_reducible rfl
  rotate_left
  · simp only [Act.put, List.setIfInBounds_toArray, List.set_cons_zero, List.set_cons_succ, i64_w, i32_w]
    rfl
  refine pure_ (i := 11) (N := (some 9)) (v := ?_) (a' := ?_) #[true, true, true, true, true, true, true, true, true, true, true, true] rfl rfl (by kernel_rfl) (fun _ _ _ h => h) (Or.inl ⟨by rfl, ?_⟩) ?_ ?_
  rotate_left
  · intro w'
    go_simp
    with_reducible rfl
  rotate_left
  · simp only [Act.put, List.setIfInBounds_toArray, List.set_cons_zero, List.set_cons_succ, i64_w, i32_w]
    rfl
  refine done_ (by kernel_rfl) ?_
  clear hHeld
  have hS9 := Lib.hid h6S.out
  clear h6S
  generalize X6 = X9 at *
  clear h14a h14b h14c h14d h15
  have hsz : s.toList.length = s.size := by rw [Lib.toList_data]; simp
  by_cases hem : s.toList = []
  · have hz : decide (s.size = 0) = true := decide_eq_true (by rw [← hsz, hem]; rfl)
    rw [hz, Bool.true_or] at h14e
    have hem2 : decide (s.toList = []) = true := decide_eq_true hem
    clear hz hsz
    replace h14e := Lib.hid h14e
    obtain ⟨⟨f0, f1, f2, f3, f4, f5, f6, f7⟩, ⟨g0, g1, g2, g3, g4, g5, g6, g7⟩⟩ := hS9.out.cells
    go_wp2_with (first
      | (go_at_call 18; clear f0 f1 f2 f3 f4 f5 f6 f7 g0 g1 g2 g3 g4 g5 g6 g7; refine (h18.out 0 1 _ hS9.out.n1).mono ?_; rintro e Y1 ⟨y1, rfl, hN', hbb⟩; have hY1 := Lib.hid (hS9.out.below hbb); have hN1 := Lib.hid hN'; clear hN' hbb; obtain ⟨⟨f0, f1, f2, f3, f4, f5, f6, f7⟩, ⟨g0, g1, g2, g3, g4, g5, g6, g7⟩⟩ := hY1.out.cells)
      | (go_at_call 14; have hgo := hY2; clear hgo; clear f0 f1 f2 f3 f4 f5 f6 f7 g0 g1 g2 g3 g4 g5 g6 g7; refine (h14f.out _ _ hY2.out.n2).mono ?_; rintro e Y3 ⟨rfl, hbb⟩; have hY3 := Lib.hid (hY2.out.below hbb); clear hbb)
      | (go_at_call 14; clear f0 f1 f2 f3 f4 f5 f6 f7 g0 g1 g2 g3 g4 g5 g6 g7; refine (h14e.out _ _ hN1.out).mono ?_; rintro e Y2 ⟨rfl, hbb⟩; have hY2 := Lib.hid (hY1.out.below hbb); clear hbb; obtain ⟨⟨f0, f1, f2, f3, f4, f5, f6, f7⟩, ⟨g0, g1, g2, g3, g4, g5, g6, g7⟩⟩ := hY2.out.cells))
    go_ret
    exact ⟨rfl, hY3.out.b⟩
  · have hz : decide (s.size = 0) = false := decide_eq_false (fun h => hem (List.eq_nil_of_length_eq_zero (by rw [hsz]; exact h)))
    rw [hz, Bool.false_or] at h14e
    have hem2 : decide (s.toList = []) = false := decide_eq_false hem
    have hem3 : s.toList.isEmpty = false := by simpa using hem
    clear hz hsz
    replace h14e := Lib.hid h14e
    obtain ⟨⟨f0, f1, f2, f3, f4, f5, f6, f7⟩, ⟨g0, g1, g2, g3, g4, g5, g6, g7⟩⟩ := hS9.out.cells
    go_wp2_with (first
      | (go_at_call 18; clear f0 f1 f2 f3 f4 f5 f6 f7 g0 g1 g2 g3 g4 g5 g6 g7; refine (h18.out 0 1 _ hS9.out.n1).mono ?_; rintro e Y1 ⟨y1, rfl, hN', hbb⟩; have hY1 := Lib.hid (hS9.out.below hbb); have hN1 := Lib.hid hN'; clear hN' hbb; obtain ⟨⟨f0, f1, f2, f3, f4, f5, f6, f7⟩, ⟨g0, g1, g2, g3, g4, g5, g6, g7⟩⟩ := hY1.out.cells)
      | (go_at_call 14; have hgo := hY3; clear hgo; clear f0 f1 f2 f3 f4 f5 f6 f7 g0 g1 g2 g3 g4 g5 g6 g7; refine (h14f.out _ _ hY3.out.n2).mono ?_; rintro e Y4 ⟨rfl, hbb⟩; have hY4 := Lib.hid (hY3.out.below hbb); clear hbb)
      | (go_at_call 14; have hgo := hY2; clear hgo; clear f0 f1 f2 f3 f4 f5 f6 f7 g0 g1 g2 g3 g4 g5 g6 g7; refine (h14n.out _ _ hY2.out.n1).mono ?_; rintro e Y3 ⟨rfl, hbb⟩; have hY3 := Lib.hid (hY2.out.below hbb); clear hbb; obtain ⟨⟨f0, f1, f2, f3, f4, f5, f6, f7⟩, ⟨g0, g1, g2, g3, g4, g5, g6, g7⟩⟩ := hY3.out.cells)
      | (go_at_call 14; clear f0 f1 f2 f3 f4 f5 f6 f7 g0 g1 g2 g3 g4 g5 g6 g7; refine (h14e.out _ _ hN1.out).mono ?_; rintro e Y2 ⟨rfl, hbb⟩; have hY2 := Lib.hid (hY1.out.below hbb); clear hbb; obtain ⟨⟨f0, f1, f2, f3, f4, f5, f6, f7⟩, ⟨g0, g1, g2, g3, g4, g5, g6, g7⟩⟩ := hY2.out.cells))
    go_ret
    exact ⟨rfl, hY4.out.b⟩
end Go.Proofs.Ytimhiacjoplkeaa
