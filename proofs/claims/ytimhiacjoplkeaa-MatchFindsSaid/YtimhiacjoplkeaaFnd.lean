/- MatchFinds: its walk. Own text (printed by wip/c04/gen_fnd.py). -/
import Derived.Test.YtimhiacjoplkeaaREnd
import Derived.Test.YtimhiacjoplkeaaMke
import Derived.Test.YtimhiacjoplkeaaAwk
namespace Go.Proofs.Ytimhiacjoplkeaa
open Go.RowKit Go.Proofs.Ytimhiacjoplkeaa.P Go.Proofs.YtimhiacjoplkeaaW.PrintWords Go.Proofs.YtimhiacjoplkeaaW.PrintLast
set_option linter.unusedVariables false
set_option linter.unusedSimpArgs false
theorem texts_l (l : List ByteArray) (hl : l.length ≤ 9223372036854775807) : ∀ m i : Nat, i + m = l.length → homographref04_Texts.l0 (m + 1) l l (i : Int) = some true
  | 0, i, h => by
    unfold homographref04_Texts.l0
    rw [if_neg (by omega)]
  | m + 1, i, h => by
    unfold homographref04_Texts.l0
    rw [if_pos (by omega), if_pos (by omega), if_pos (by omega), if_pos rfl]
    have hw : wrap64 ((i : Int) + 1) = ((i + 1 : Nat) : Int) := by rw [← i64_w, IntKind.wrap_i64]; omega
    rw [hw]
    exact texts_l l hl m (i + 1) (by omega)
theorem texts_same (l : List ByteArray) (hl : l.length ≤ 9223372036854775807) : homographref04_Texts.f (l.length + 1) l l = some true := by
  unfold homographref04_Texts.f
  rw [if_pos rfl]
  exact texts_l l hl l.length 0 (by omega)
/-- A box that holds a pattern. -/
structure Sf (w0 W : World) (b1 : Nat) (n : Nd) (v1 : Value) : Prop where
  x1 : Blk W b1 28 (boxC n.op n.s0 n.s1 n.s2 n.s3 n.mn n.mx v1)
  n1 : IsN W n (ndVal n v1)
  b : Below w0.heap.size w0 W
theorem Sf.below {w0 W W' : World} {b1 : Nat} {n : Nd} {v1 : Value} (h : Sf w0 W b1 n v1) (hb : Below W.heap.size W W') : Sf w0 W' b1 n v1 :=
  ⟨h.x1.below hb h.x1.lt, h.n1.below hb, below_then h.b h.b.size hb⟩
theorem Sf.drew {w0 W : World} {b1 : Nat} {n : Nd} {v1 : Value} (h : Sf w0 W b1 n v1) : Sf w0 W.drew b1 n v1 := h.below (below_drew1 (Below.refl _ _))
theorem Sf.cells {w0 W : World} {b1 : Nat} {n : Nd} {v1 : Value} (h : Sf w0 W b1 n v1) : cells8 W b1 n.op n.s0 n.s1 n.s2 n.s3 n.mn n.mx v1 := cells8_of h.x1
set_option maxRecDepth 20000 in
set_option maxHeartbeats 4000000 in
theorem finds_m (code s : ByteArray) (fr : Int) (w : World) : Calls Try.prog 3 #[.string code, .string s, .int .i64 fr] w fun e w' => e = .returned (.bool true) ∧ Below w.heap.size w w' := by
  have haw := Lib.hid (awake_c w)
  by_cases h8 : 10 < code.size
  · have hd : decide ((10 : Int) < (code.size : Int)) = true := decide_eq_true (by omega)
    have hd2 : decide (10 < code.size) = true := decide_eq_true h8
    go_enter Try.func3, Try.ntmps3
    go_wp2_with (go_at_call 7; refine (haw.out).mono ?_; rintro e w1 ⟨rfl, hb1⟩)
    go_ret
    exact ⟨rfl, hb1⟩
  have hd : decide ((10 : Int) < (code.size : Int)) = false := decide_eq_false (by omega)
  have hd2 : decide (10 < code.size) = false := decide_eq_false h8
  by_cases h12 : 14 < s.size
  · have hd3 : decide ((14 : Int) < (s.size : Int)) = true := decide_eq_true (by omega)
    have hd4 : decide (14 < s.size) = true := decide_eq_true h12
    go_enter Try.func3, Try.ntmps3
    go_wp2_with (go_at_call 7; refine (haw.out).mono ?_; rintro e w1 ⟨rfl, hb1⟩)
    go_ret
    exact ⟨rfl, hb1⟩
  have hd3 : decide ((14 : Int) < (s.size : Int)) = false := decide_eq_false (by omega)
  have hd4 : decide (14 < s.size) = false := decide_eq_false h12
  have hcs : code.size ≤ 1000 := by omega
  have hs6 : s.size ≤ 1000000 := by omega
  have hsH := Lib.hid hs6
  have hmk := Lib.hid (fun w => make_c code hcs w)
  clear hcs hs6
  go_enter Try.func3, Try.ntmps3
  go_upto_region 7 with (first
    | (go_at_call 7; refine (haw.out).mono ?_; rintro e w1 ⟨rfl, hb1⟩; have hb1H := Lib.hid hb1; clear hb1)
    | (go_at_call 8; refine (hmk.out _).mono ?_; rintro e w2 ⟨n, v, rfl, hg, hN, hB⟩; obtain ⟨A1, c1, e2, hNc⟩ := hN.cells; subst e2; obtain ⟨k1, hk1⟩ : ∃ k, k = n.kids.length := ⟨_, rfl⟩; rw [← hk1] at hN ⊢; have hk1H := Lib.hid hk1; clear hk1 hNc; have hgH := Lib.hid hg; have hNH := Lib.hid hN; have hBH := Lib.hid (below_then hb1H.out hb1H.out.size hB); clear hg hN hB))
  have hS0 : Hid (Sf w (w2.alloc (.cells (boxC n.op n.s0 n.s1 n.s2 n.s3 n.mn n.mx (.slice A1 k1 c1)) 28)) w2.heap.size n (.slice A1 k1 c1)) := Lib.hid ⟨Blk.new w2 28 (boxC n.op n.s0 n.s1 n.s2 n.s3 n.mn n.mx (.slice A1 k1 c1)), hNH.out.below (below_alloc (Below.refl _ _) _), below_alloc hBH.out _⟩
  clear hNH hBH hb1H haw hmk hd hd2 hd3 hd4
  generalize w2.alloc (.cells (boxC n.op n.s0 n.s1 n.s2 n.s3 n.mn n.mx (.slice A1 k1 c1)) 28) = W0 at *
  generalize w2.heap.size = b1 at *
  have hwf := wf_of_gd n hgH.out
  have h9 := Lib.hid (fun W v h => first_c s hsH.out n hwf fr W v h)
  have h10 := Lib.hid (fun W v h => first_r s hsH.out n hgH.out fr W v h)
  have h12' := Lib.hid (fun W v h => cut_c s hsH.out n hwf W v h)
  have h13 := Lib.hid (fun W v h => cut_r s hsH.out n hgH.out W v h)
  clear hwf h8 h12
  generalize firstP (fun i : Nat => longP s n (i : Int)) (s.size + 1 - (max fr 0).toNat) (max fr 0).toNat = T at *
  obtain ⟨T1, T2, TB⟩ := T
  simp only at h9 h10
  generalize cutOf s n = L at *
  obtain ⟨e0, e1, e2, e3, e4, e5, e6, e7⟩ := hS0.out.cells
  go_upto_region 8 with (go_at_call 9; clear e0 e1 e2 e3 e4 e5 e6 e7; refine (h9.out _ _ hS0.out.n1).mono ?_; rintro e W1 ⟨rfl, hbb⟩; have hS1 := Lib.hid (hS0.out.below hbb); clear hbb; obtain ⟨e0, e1, e2, e3, e4, e5, e6, e7⟩ := hS1.out.cells)
  go_upto_region 9 with (go_at_call 10; clear e0 e1 e2 e3 e4 e5 e6 e7; refine (h10.out _ _ hS1.out.n1).mono ?_; rintro e W2 ⟨rfl, hbb⟩; have hS2 := Lib.hid (hS1.out.below hbb); clear hbb)
  clear hS0 hS1 h9 h10
  refine start_ (n := 23) (S := (fun w' => cells8 w' b1 n.op n.s0 n.s1 n.s2 n.s3 n.mn n.mx (.slice A1 k1 c1))) (ds := []) #[false, false, false, false, false, false, false, false, false, false, false, false, false, false, false, false, false, false, false, false, false, false, false] (by kernel_rfl) rfl rfl ?_ (fun hHeld => ?_)
  · exact hS2.out.cells
  have hSd := Lib.hid hS2.out.drew
  clear hS2
  generalize W2.drew = X0 at *
  refine pure_ (i := 0) (N := (some 44)) (v := ?_) (a' := ?_) #[true, false, false, false, false, false, false, false, false, false, false, false, false, false, false, false, false, false, false, false, false, false, false] rfl rfl (by kernel_rfl) (fun _ _ _ h => h) (Or.inl ⟨by rfl, ?_⟩) ?_ ?_
  rotate_left
  · intro w'
    go_simp
    with_reducible rfl
  rotate_left
  · simp only [Act.put, List.setIfInBounds_toArray, List.set_cons_zero, List.set_cons_succ, i64_w, i32_w]
    rfl
  refine pure_ (i := 1) (N := (some 45)) (v := ?_) (a' := ?_) #[true, true, false, false, false, false, false, false, false, false, false, false, false, false, false, false, false, false, false, false, false, false, false] rfl rfl (by kernel_rfl) (fun _ _ _ h => h) (Or.inl ⟨by rfl, ?_⟩) ?_ ?_
  rotate_left
  · intro w'
    go_simp
    with_reducible rfl
  rotate_left
  · simp only [Act.put, List.setIfInBounds_toArray, List.set_cons_zero, List.set_cons_succ, i64_w, i32_w]
    rfl
  refine pure_ (i := 2) (N := (some 46)) (v := ?_) (a' := ?_) #[true, true, true, false, false, false, false, false, false, false, false, false, false, false, false, false, false, false, false, false, false, false, false] rfl rfl (by kernel_rfl) (fun _ _ _ h => h) (Or.inl ⟨by rfl, ?_⟩) ?_ ?_
  rotate_left
  · intro w'
    go_simp
    with_reducible rfl
  rotate_left
  · simp only [Act.put, List.setIfInBounds_toArray, List.set_cons_zero, List.set_cons_succ, i64_w, i32_w]
    rfl
  refine pure_ (i := 3) (N := (some 47)) (v := ?_) (a' := ?_) #[true, true, true, true, false, false, false, false, false, false, false, false, false, false, false, false, false, false, false, false, false, false, false] rfl rfl (by kernel_rfl) (fun _ _ _ h => h) (Or.inl ⟨by rfl, ?_⟩) ?_ ?_
  rotate_left
  · intro w'
    go_simp
    with_reducible rfl
  rotate_left
  · simp only [Act.put, List.setIfInBounds_toArray, List.set_cons_zero, List.set_cons_succ, i64_w, i32_w]
    rfl
  refine pure_ (i := 4) (N := (some 48)) (v := ?_) (a' := ?_) #[true, true, true, true, true, false, false, false, false, false, false, false, false, false, false, false, false, false, false, false, false, false, false] rfl rfl (by kernel_rfl) (fun _ _ _ h => h) (Or.inl ⟨by rfl, ?_⟩) ?_ ?_
  rotate_left
  · intro w'
    go_simp
    with_reducible rfl
  rotate_left
  · simp only [Act.put, List.setIfInBounds_toArray, List.set_cons_zero, List.set_cons_succ, i64_w, i32_w]
    rfl
  refine pure_ (i := 5) (N := (some 49)) (v := ?_) (a' := ?_) #[true, true, true, true, true, true, false, false, false, false, false, false, false, false, false, false, false, false, false, false, false, false, false] rfl rfl (by kernel_rfl) (fun _ _ _ h => h) (Or.inl ⟨by rfl, ?_⟩) ?_ ?_
  rotate_left
  · intro w'
    go_simp
    with_reducible rfl
  rotate_left
  · simp only [Act.put, List.setIfInBounds_toArray, List.set_cons_zero, List.set_cons_succ, i64_w, i32_w]
    rfl
  refine pure_ (i := 6) (N := (some 50)) (v := ?_) (a' := ?_) #[true, true, true, true, true, true, true, false, false, false, false, false, false, false, false, false, false, false, false, false, false, false, false] rfl rfl (by kernel_rfl) (fun _ _ _ h => h) (Or.inl ⟨by rfl, ?_⟩) ?_ ?_
  rotate_left
  · intro w'
    go_simp
    with_reducible rfl
  rotate_left
  · simp only [Act.put, List.setIfInBounds_toArray, List.set_cons_zero, List.set_cons_succ, i64_w, i32_w]
    rfl
  refine pure_ (i := 7) (N := (some 51)) (v := ?_) (a' := ?_) #[true, true, true, true, true, true, true, true, false, false, false, false, false, false, false, false, false, false, false, false, false, false, false] rfl rfl (by kernel_rfl) (fun _ _ _ h => h) (Or.inl ⟨by rfl, ?_⟩) ?_ ?_
  rotate_left
  · intro w'
    go_simp
    with_reducible rfl
  rotate_left
  · simp only [Act.put, List.setIfInBounds_toArray, List.set_cons_zero, List.set_cons_succ, i64_w, i32_w]
    rfl
  refine pure_ (i := 8) (N := (some 52)) (v := ?_) (a' := ?_) #[true, true, true, true, true, true, true, true, true, false, false, false, false, false, false, false, false, false, false, false, false, false, false] rfl rfl (by kernel_rfl) (fun _ _ _ h => h) (Or.inl ⟨by rfl, ?_⟩) ?_ ?_
  rotate_left
  · intro w'
    go_simp
    with_reducible rfl
  rotate_left
  · simp only [Act.put, List.setIfInBounds_toArray, List.set_cons_zero, List.set_cons_succ, i64_w, i32_w]
    rfl
  refine pure_ (i := 9) (N := (some 53)) (v := ?_) (a' := ?_) #[true, true, true, true, true, true, true, true, true, true, false, false, false, false, false, false, false, false, false, false, false, false, false] rfl rfl (by kernel_rfl) (fun _ _ _ h => h) (Or.inl ⟨by rfl, ?_⟩) ?_ ?_
  rotate_left
  · intro w'
    go_simp
    with_reducible rfl
  rotate_left
  · simp only [Act.put, List.setIfInBounds_toArray, List.set_cons_zero, List.set_cons_succ, i64_w, i32_w]
    rfl
  refine pure_ (i := 10) (N := (some 54)) (v := ?_) (a' := ?_) #[true, true, true, true, true, true, true, true, true, true, true, false, false, false, false, false, false, false, false, false, false, false, false] rfl rfl (by kernel_rfl) (fun _ _ _ h => h) (Or.inl ⟨by rfl, ?_⟩) ?_ ?_
  rotate_left
  · intro w'
    go_simp
    with_reducible rfl
  rotate_left
  · simp only [Act.put, List.setIfInBounds_toArray, List.set_cons_zero, List.set_cons_succ, i64_w, i32_w]
    rfl
  refine pure_ (i := 11) (N := (some 55)) (v := ?_) (a' := ?_) #[true, true, true, true, true, true, true, true, true, true, true, true, false, false, false, false, false, false, false, false, false, false, false] rfl rfl (by kernel_rfl) (fun _ _ _ h => h) (Or.inl ⟨by rfl, ?_⟩) ?_ ?_
  rotate_left
  · intro w'
    go_simp
    with_reducible rfl
  rotate_left
  · simp only [Act.put, List.setIfInBounds_toArray, List.set_cons_zero, List.set_cons_succ, i64_w, i32_w]
    rfl
  refine pure_ (i := 12) (N := (some 56)) (v := ?_) (a' := ?_) #[true, true, true, true, true, true, true, true, true, true, true, true, true, false, false, false, false, false, false, false, false, false, false] rfl rfl (by kernel_rfl) (fun _ _ _ h => h) (Or.inl ⟨by rfl, ?_⟩) ?_ ?_
  rotate_left
  · intro w'
    go_simp
    with_reducible rfl
  rotate_left
  · simp only [Act.put, List.setIfInBounds_toArray, List.set_cons_zero, List.set_cons_succ, i64_w, i32_w]
    rfl
  refine pure_ (i := 13) (N := (some 57)) (v := ?_) (a' := ?_) #[true, true, true, true, true, true, true, true, true, true, true, true, true, true, false, false, false, false, false, false, false, false, false] rfl rfl (by kernel_rfl) (fun _ _ _ h => h) (Or.inl ⟨by rfl, ?_⟩) ?_ ?_
  rotate_left
  · intro w'
    go_simp
    with_reducible rfl
  rotate_left
  · simp only [Act.put, List.setIfInBounds_toArray, List.set_cons_zero, List.set_cons_succ, i64_w, i32_w]
    rfl
  refine take_ (i := 14) (N := (some 58)) (v := ?_) (a' := ?_) #[true, true, true, true, true, true, true, true, true, true, true, true, true, true, true, false, false, false, false, false, false, false, false] rfl rfl (by kernel_rfl) (fun _ _ _ h => h) (Or.inl ⟨by rfl, ?_⟩) hHeld ?_ ?_
  rotate_left
  · intro w' ⟨e0, e1, e2, e3, e4, e5, e6, e7⟩
    go_simp
    with_reducible rfl
  rotate_left
  · simp only [Act.put, List.setIfInBounds_toArray, List.set_cons_zero, List.set_cons_succ, i64_w, i32_w]
    rfl
  refine pure_ (i := 15) (N := (some 59)) (v := ?_) (a' := ?_) #[true, true, true, true, true, true, true, true, true, true, true, true, true, true, true, true, false, false, false, false, false, false, false] rfl rfl (by kernel_rfl) (fun _ _ _ h => h) (Or.inl ⟨by rfl, ?_⟩) ?_ ?_
  rotate_left
  · intro w'
    go_simp
    with_reducible rfl
  rotate_left
  · simp only [Act.put, List.setIfInBounds_toArray, List.set_cons_zero, List.set_cons_succ, i64_w, i32_w]
    rfl
  refine take_ (i := 17) (N := (some 61)) (v := ?_) (a' := ?_) #[true, true, true, true, true, true, true, true, true, true, true, true, true, true, true, true, false, true, false, false, false, false, false] rfl rfl (by kernel_rfl) (fun _ _ _ h => h) (Or.inl ⟨by rfl, ?_⟩) hHeld ?_ ?_
  rotate_left
  · intro w' ⟨e0, e1, e2, e3, e4, e5, e6, e7⟩
    go_simp
    with_reducible rfl
  rotate_left
  · simp only [Act.put, List.setIfInBounds_toArray, List.set_cons_zero, List.set_cons_succ, i64_w, i32_w]
    rfl
  refine pure_ (i := 18) (N := (some 62)) (v := ?_) (a' := ?_) #[true, true, true, true, true, true, true, true, true, true, true, true, true, true, true, true, false, true, true, false, false, false, false] rfl rfl (by kernel_rfl) (fun _ _ _ h => h) (Or.inl ⟨by rfl, ?_⟩) ?_ ?_
  rotate_left
  · intro w'
    go_simp
    with_reducible rfl
  rotate_left
  · simp only [Act.put, List.setIfInBounds_toArray, List.set_cons_zero, List.set_cons_succ, i64_w, i32_w]
    rfl
  refine one_ (i := 16) (N := (some 60)) #[true, true, true, true, true, true, true, true, true, true, true, true, true, true, true, true, true, true, true, false, false, false, false] rfl rfl (by kernel_rfl) (by decide) (fun K hK => ?_)
  refine goes_ Try.func12 (by kernel_rfl) rfl #[ndVal n (.slice A1 k1 c1), .string s] (by rfl) rfl rfl (by simp only [List.map_toArray, List.map_cons, List.map_nil]; rfl) ?_
  refine (h12'.out _ _ hSd.out.n1).mono ?_
  rintro e X1 ⟨v5, rfl, hR5, hbb⟩
  obtain ⟨A5, c5, e5, hl5, hC5⟩ := Kd.R_reads hR5
  subst e5
  refine ⟨_, rfl, ?_⟩
  have hS3 := Lib.hid (hSd.out.below hbb)
  have hC5H := Lib.hid hC5
  have hl5H := Lib.hid hl5
  clear hbb hR5 hC5 hl5
  refine hK.out _ _ hS3.out.cells (fun hHeld => ?_)
  clear hK K
  refine norm_ (a' := ?_) ?_ ?_
  rotate_left
  · show Act.put _ (some 60) _ = _
    simp only [Act.put, List.setIfInBounds_toArray, List.set_cons_zero, List.set_cons_succ, i64_w, i32_w]
    rfl
  refine one_ (i := 19) (N := (some 63)) #[true, true, true, true, true, true, true, true, true, true, true, true, true, true, true, true, true, true, true, true, false, false, false] rfl rfl (by kernel_rfl) (by decide) (fun K hK => ?_)
  refine goes_ Try.func13 (by kernel_rfl) rfl #[ndVal n (.slice A1 k1 c1), .string s] (by rfl) rfl rfl (by simp only [List.map_toArray, List.map_cons, List.map_nil]; rfl) ?_
  refine (h13.out _ _ hS3.out.n1).mono ?_
  rintro e X2 ⟨v6, rfl, hR6, hbb⟩
  obtain ⟨A6, c6, e6, hl6, hC6⟩ := Kd.R_reads hR6
  subst e6
  refine ⟨_, rfl, ?_⟩
  have hS4 := Lib.hid (hS3.out.below hbb)
  have hC6H := Lib.hid hC6
  have hl6H := Lib.hid hl6
  have hC5' := Lib.hid (Kd.C_below hC5H.out hbb)
  clear hbb hR6 hC6 hl6
  refine hK.out _ _ hS4.out.cells (fun hHeld => ?_)
  clear hK K
  refine norm_ (a' := ?_) ?_ ?_
  rotate_left
  · show Act.put _ (some 63) _ = _
    simp only [Act.put, List.setIfInBounds_toArray, List.set_cons_zero, List.set_cons_succ, i64_w, i32_w]
    rfl
  have htx := Lib.hid (homographref04_Texts.calls (L.length + 1) A5 c5 L A6 c6 L true X2 hC5'.out hl5H.out hC6H.out hl6H.out (texts_same L hC6H.out.2.1))
  refine one_ (i := 20) (N := (some 64)) #[true, true, true, true, true, true, true, true, true, true, true, true, true, true, true, true, true, true, true, true, true, false, false] rfl rfl (by kernel_rfl) (by decide) (fun K hK => ?_)
  refine goes_ Try.func11 (by kernel_rfl) rfl #[.slice A5 L.length c5, .slice A6 L.length c6] (by rfl) rfl rfl (by simp only [List.map_toArray, List.map_cons, List.map_nil]; rfl) ?_
  refine (htx.out).mono ?_
  rintro e X3 ⟨rfl, hD⟩
  refine ⟨_, rfl, ?_⟩
  have hS5 := Lib.hid (hS4.out.below hD.below)
  clear hD
  refine hK.out _ _ hS5.out.cells (fun hHeld => ?_)
  clear hK K
  refine norm_ (a' := ?_) ?_ ?_
  rotate_left
  · show Act.put _ (some 64) _ = _
    simp only [Act.put, List.setIfInBounds_toArray, List.set_cons_zero, List.set_cons_succ, i64_w, i32_w]
    rfl
  refine pure_ (i := 21) (N := (some 65)) (v := ?_) (a' := ?_) #[true, true, true, true, true, true, true, true, true, true, true, true, true, true, true, true, true, true, true, true, true, true, false] rfl rfl (by kernel_rfl) (fun _ _ _ h => h) (Or.inl ⟨by rfl, ?_⟩) ?_ ?_
  rotate_left
  · intro w'
    go_simp
    with_reducible rfl
  rotate_left
  · simp only [Act.put, List.setIfInBounds_toArray, List.set_cons_zero, List.set_cons_succ, i64_w, i32_w]
    rfl
  refine pure_ (i := 22) (N := (some 6)) (v := ?_) (a' := ?_) #[true, true, true, true, true, true, true, true, true, true, true, true, true, true, true, true, true, true, true, true, true, true, true] rfl rfl (by kernel_rfl) (fun _ _ _ h => h) (Or.inl ⟨by rfl, ?_⟩) ?_ ?_
  rotate_left
  · intro w'
    go_simp
    with_reducible rfl
  rotate_left
  · simp only [Act.put, List.setIfInBounds_toArray, List.set_cons_zero, List.set_cons_succ, i64_w, i32_w]
    rfl
  refine done_ (by kernel_rfl) ?_
  go_wp2
  go_ret
  exact ⟨rfl, hS5.out.b⟩
end Go.Proofs.Ytimhiacjoplkeaa
