/- MatchBack: its walk. Own text (printed by wip/c04/gen_bck.py). -/
import Derived.Test.YtimhiacjoplkeaaLw
import Derived.Test.YtimhiacjoplkeaaNul
import Derived.Test.YtimhiacjoplkeaaBak
import Derived.Laws.DeepStrings4
namespace Go.Proofs.Ytimhiacjoplkeaa
open Go.RowKit Go.Proofs.Ytimhiacjoplkeaa.P Go.Proofs.YtimhiacjoplkeaaW.PrintWords Go.Proofs.YtimhiacjoplkeaaW.PrintLast
set_option linter.unusedVariables false
set_option linter.unusedSimpArgs false
/-- The first bytes of a text, turned. -/
def revT (s : ByteArray) : Nat → ByteArray
  | 0 => ⟨#[]⟩
  | m + 1 => s.extract m (m + 1) ++ revT s m
theorem revT_list (s : ByteArray) : ∀ m, m ≤ s.size → (revT s m).data.toList = (s.data.toList.take m).reverse
  | 0, _ => by simp [revT]
  | m + 1, h => by
    have hm : m < s.data.toList.length := by simp; omega
    unfold revT
    rw [ByteArray.data_append, Array.toList_append, revT_list s m (by omega), ByteArray.data_extract, Array.toList_extract, List.take_succ_eq_append_getElem hm, List.reverse_append]
    congr 1
    simp only [List.reverse_singleton]
    unfold List.extract
    rw [show m + 1 - m = 1 by omega, List.take_one, List.head?_drop, List.getElem?_eq_getElem hm]
    rfl
theorem revT_len (s : ByteArray) (m : Nat) (h : m ≤ s.size) : (revT s m).size = m := by
  have h := congrArg List.length (revT_list s m h)
  simp at h
  omega
theorem revT_size (s : ByteArray) : (revT s s.size).size = s.size := by
  have h := congrArg List.length (revT_list s s.size (Nat.le_refl _))
  simpa using h
theorem revT_byte (s : ByteArray) (i : Nat) (hi : i < s.size) : byteN (revT s s.size) i = byteN s (s.size - 1 - i) := by
  have hl : s.data.toList.length = s.size := by simp
  unfold byteN
  rw [revT_list s s.size (Nat.le_refl _), List.take_of_length_le (by omega), List.getD_eq_getElem?_getD, List.getD_eq_getElem?_getD, List.getElem?_reverse (by omega), hl]
mutual
theorem gd_bk : ∀ n : Nd, Gd n → Gd (bk n)
  | .mk op s0 s1 s2 s3 mn mx ks, h => by
    obtain ⟨h1, h2, h3, h4, h5⟩ := (Gd_mk _ _ _ _ _ _ _ _).1 h
    have hk := gd_bks ks h5
    unfold bk
    refine (Gd_mk _ _ _ _ _ _ _ _).2 ⟨?_, h2, h3, h4, ?_⟩
    · rcases h1 with ⟨a, b⟩ | a | a | ⟨a, b⟩ | a | ⟨a, b⟩
      · left; subst a; subst b; exact ⟨rfl, by unfold bks; rfl⟩
      · exact .inr (.inl a)
      · exact .inr (.inr (.inl a))
      · refine .inr (.inr (.inr (.inl ⟨a, ?_⟩)))
        split <;> simp [bks_map, b]
      · exact .inr (.inr (.inr (.inr (.inl a))))
      · refine .inr (.inr (.inr (.inr (.inr ⟨a, ?_⟩))))
        split <;> simp [bks_map, b]
    · intro k hkk
      split at hkk
      · exact hk k (List.mem_reverse.1 hkk)
      · exact hk k hkk
theorem gd_bks : ∀ ks : List Nd, (∀ k ∈ ks, Gd k) → ∀ k ∈ bks ks, Gd k
  | [], _, x, hx => by unfold bks at hx; cases hx
  | k :: ks, h, x, hx => by
    unfold bks at hx
    rcases List.mem_cons.1 hx with e | hx
    · exact e ▸ gd_bk k (h k List.mem_cons_self)
    · exact gd_bks ks (fun y hy => h y (List.mem_cons_of_mem _ hy)) x hx
end
/-- A box that holds a pattern. -/
structure St1 (w0 W : World) (b1 : Nat) (n : Nd) (v1 : Value) : Prop where
  x1 : Blk W b1 28 (ndC n v1)
  n1 : IsN W n (ndVal n v1)
  b : Below w0.heap.size w0 W
theorem St1.below {w0 W W' : World} {b1 : Nat} {n : Nd} {v1 : Value} (h : St1 w0 W b1 n v1) (hb : Below W.heap.size W W') : St1 w0 W' b1 n v1 :=
  ⟨h.x1.below hb h.x1.lt, h.n1.below hb, below_then h.b h.b.size hb⟩
theorem St1.drew {w0 W : World} {b1 : Nat} {n : Nd} {v1 : Value} (h : St1 w0 W b1 n v1) : St1 w0 W.drew b1 n v1 := h.below (below_drew1 (Below.refl _ _))
theorem St1.cells {w0 W : World} {b1 : Nat} {n : Nd} {v1 : Value} (h : St1 w0 W b1 n v1) : cellsN W b1 n v1 := cells8_of h.x1
theorem back_m (n : Nd) (W : World) (v : Value) (h : IsN W n v) : Calls Try.prog 16 #[v] W fun e w' => ∃ A m c, e = .returned (ndVal (bk n) (.slice A m c)) ∧ IsN w' (bk n) (ndVal (bk n) (.slice A m c)) ∧ Below W.heap.size W w' :=
  (back_c n W v h).mono (by rintro e w' ⟨A, m, c, rfl, hN, hB⟩; exact ⟨A, m, c, rfl, IsN_of_NM hN, hB⟩)
set_option maxRecDepth 20000 in
set_option maxHeartbeats 4000000 in
theorem matchBack_c (code s : ByteArray) (w : World) : Calls Try.prog 5 #[.string code, .string s] w fun e w' => e = .returned (.bool true) ∧ Below w.heap.size w w' := by
  have haw := Lib.hid (awake_c w)
  by_cases h8 : 12 < code.size
  · have hd : decide ((12 : Int) < (code.size : Int)) = true := decide_eq_true (by omega)
    have hd2 : decide (12 < code.size) = true := decide_eq_true h8
    go_enter Try.func5, Try.ntmps5
    go_wp2_with (go_at_call 7; refine (haw.out).mono ?_; rintro e w1 ⟨rfl, hb1⟩)
    go_ret
    exact ⟨rfl, hb1⟩
  have hd : decide ((12 : Int) < (code.size : Int)) = false := decide_eq_false (by omega)
  have hd2 : decide (12 < code.size) = false := decide_eq_false h8
  by_cases h12 : 14 < s.size
  · have hd3 : decide ((14 : Int) < (s.size : Int)) = true := decide_eq_true (by omega)
    have hd4 : decide (14 < s.size) = true := decide_eq_true h12
    go_enter Try.func5, Try.ntmps5
    go_wp2_with (go_at_call 7; refine (haw.out).mono ?_; rintro e w1 ⟨rfl, hb1⟩)
    go_ret
    exact ⟨rfl, hb1⟩
  have hd3 : decide ((14 : Int) < (s.size : Int)) = false := decide_eq_false (by omega)
  have hd4 : decide (14 < s.size) = false := decide_eq_false h12
  have hcs : code.size ≤ 1000 := by omega
  have hs6 : s.size ≤ 1000000 := by omega
  have hsH := Lib.hid hs6
  have hmk := Lib.hid (fun w => make_c code hcs w)
  clear hcs hs6
  go_enter Try.func5, Try.ntmps5
  go_upto_region 7 with (first
    | (go_at_call 7; refine (haw.out).mono ?_; rintro e w1 ⟨rfl, hb1⟩; have hb1H := Lib.hid hb1; clear hb1)
    | (go_at_call 8; refine (hmk.out _).mono ?_; rintro e w2 ⟨n, v, rfl, hg, hN, hB⟩; obtain ⟨A1, c1, e2, hNc⟩ := hN.cells; subst e2; obtain ⟨k1, hk1⟩ : ∃ k, k = n.kids.length := ⟨_, rfl⟩; rw [← hk1] at hN ⊢; have hk1H := Lib.hid hk1; clear hk1 hNc; have hgH := Lib.hid hg; have hNH := Lib.hid hN; have hBH := Lib.hid (below_then hb1H.out hb1H.out.size hB); clear hg hN hB))
  have hS0 : Hid (St1 w (w2.alloc (.cells (ndC n (.slice A1 k1 c1)) 28)) w2.heap.size n (.slice A1 k1 c1)) := Lib.hid ⟨Blk.new w2 28 (ndC n (.slice A1 k1 c1)), hNH.out.below (below_alloc (Below.refl _ _) _), below_alloc hBH.out _⟩
  clear hNH hBH hb1H haw hmk
  generalize w2.alloc (.cells (ndC n (.slice A1 k1 c1)) 28) = W0 at *
  generalize w2.heap.size = b1 at *
  have hwf := wf_of_gd n hgH.out
  have hwfb := wf_of_gd _ (gd_bk n hgH.out)
  have hmir := whole_back (revT_size s) (fun i hi => revT_byte s i hi) n
  have h14a := Lib.hid (fun W v h => whole_c s hsH.out n hwf W v h)
  have h14b := fun W v h => whole_c (revT s s.size) (by rw [revT_size]; exact hsH.out) (bk n) hwfb W v h
  rw [← hmir] at h14b
  have h14c := fun W v h => whole_c ⟨#[]⟩ (by decide) n hwf W v h
  rw [whole_null (e := ⟨#[]⟩) rfl n hgH.out] at h14c
  have h17 := Lib.hid (fun W v h => null_c n W v h)
  have h16 := Lib.hid (fun W v h => back_m n W v h)
  replace h14b := Lib.hid h14b
  replace h14c := Lib.hid h14c
  clear hmir hwf hwfb
  generalize wholeP s n = q at *
  generalize nul n = q2 at *
  generalize bk n = a at *
  go_wp2
  go_loopw [7, 8] (fun tt ii wr => ∃ i : Nat, i ≤ s.size ∧ ii = .int .i64 i ∧ tt = .string (revT s i) ∧ wr = W0) (fun _ ii _ => s.size - (intOf ii).toNat)
  case atStart => exact ⟨0, by omega, rfl, rfl, rfl⟩
  case round =>
    obtain ⟨i, hi, rfl, rfl, rfl⟩ := hrel
    by_cases hlt : i < s.size
    · have he : decide ((i : Int) < (s.size : Int)) = true := decide_eq_true (by omega)
      have hi0 : (0 : Int) ≤ (i : Int) := by omega
      have hi1 : (i : Int) + 1 ≤ (s.size : Int) := by omega
      have hi2 : (i : Int) < (s.size : Int) := by omega
      have hsu := Lib.hid (show revT s (i + 1) = s.extract i (i + 1) ++ revT s i from rfl)
      have hTs := Lib.hid (Nat.le_of_eq (revT_len s i (by omega)))
      generalize revT s i = T at *
      go_wp2
      all_goals (try (exfalso; have hts := hTs.out; omega))
      go_roundw
      case rel => exact ⟨i + 1, by omega, by go_num, by rw [hsu.out], by trivial⟩
      case measure => simp [intOf]; omega
    have he : decide ((i : Int) < (s.size : Int)) = false := decide_eq_false (by omega)
    have hil : i = s.size := by omega
    rw [hil]
    have hnlt : ¬ s.size < s.size := Nat.lt_irrefl _
    generalize revT s s.size = T at *
    clear hi hlt he hil hd hd2
    go_upto_region 12 with (fail)
    refine start_ (n := 16) (S := (fun w' => cellsN w' b1 n (.slice A1 k1 c1))) (ds := []) #[false, false, false, false, false, false, false, false, false, false, false, false, false, false, false, false] (by kernel_rfl) rfl rfl ?_ (fun hHeld => ?_)
    · exact hS0.out.cells
    have hSd := Lib.hid hS0.out.drew
    clear hS0
    generalize wr.drew = X0 at *
    refine take_ (i := 0) (N := (some 35)) (v := ?_) (a' := ?_) #[true, false, false, false, false, false, false, false, false, false, false, false, false, false, false, false] rfl rfl (by kernel_rfl) (fun _ _ _ h => h) (Or.inl ⟨by rfl, ?_⟩) hHeld ?_ ?_
    rotate_left
    · intro w' ⟨e0, e1, e2, e3, e4, e5, e6, e7⟩
      go_simp
      with_reducible rfl
    rotate_left
    · simp only [Act.put, List.setIfInBounds_toArray, List.set_cons_zero, List.set_cons_succ, i64_w, i32_w]
      rfl
    refine pure_ (i := 1) (N := (some 36)) (v := ?_) (a' := ?_) #[true, true, false, false, false, false, false, false, false, false, false, false, false, false, false, false] rfl rfl (by kernel_rfl) (fun _ _ _ h => h) (Or.inl ⟨by rfl, ?_⟩) ?_ ?_
    rotate_left
    · intro w'
      go_simp
      with_reducible rfl
    rotate_left
    · simp only [Act.put, List.setIfInBounds_toArray, List.set_cons_zero, List.set_cons_succ, i64_w, i32_w]
      rfl
    refine take_ (i := 3) (N := (some 38)) (v := ?_) (a' := ?_) #[true, true, false, true, false, false, false, false, false, false, false, false, false, false, false, false] rfl rfl (by kernel_rfl) (fun _ _ _ h => h) (Or.inl ⟨by rfl, ?_⟩) hHeld ?_ ?_
    rotate_left
    · intro w' ⟨e0, e1, e2, e3, e4, e5, e6, e7⟩
      go_simp
      with_reducible rfl
    rotate_left
    · simp only [Act.put, List.setIfInBounds_toArray, List.set_cons_zero, List.set_cons_succ, i64_w, i32_w]
      rfl
    refine pure_ (i := 5) (N := (some 40)) (v := ?_) (a' := ?_) #[true, true, false, true, false, true, false, false, false, false, false, false, false, false, false, false] rfl rfl (by kernel_rfl) (fun _ _ _ h => h) (Or.inl ⟨by rfl, ?_⟩) ?_ ?_
    rotate_left
    · intro w'
      go_simp
      with_reducible rfl
    rotate_left
    · simp only [Act.put, List.setIfInBounds_toArray, List.set_cons_zero, List.set_cons_succ, i64_w, i32_w]
      rfl
    refine one_ (i := 2) (N := (some 37)) #[true, true, true, true, false, true, false, false, false, false, false, false, false, false, false, false] rfl rfl (by kernel_rfl) (by decide) (fun K hK => ?_)
    refine goes_ Try.func14 (by kernel_rfl) rfl #[ndVal n (.slice A1 k1 c1), .string s] (by rfl) rfl rfl (by simp only [List.map_toArray, List.map_cons, List.map_nil]; rfl) ?_
    refine (h14a.out _ _ hSd.out.n1).mono ?_
    rintro e X1 ⟨rfl, hbb⟩
    refine ⟨_, rfl, ?_⟩
    have hS1 := Lib.hid (hSd.out.below hbb)
    clear hbb
    refine hK.out _ _ hS1.out.cells (fun hHeld => ?_)
    clear hK K
    refine norm_ (a' := ?_) ?_ ?_
    rotate_left
    · show Act.put _ (some 37) _ = _
      simp only [Act.put, List.setIfInBounds_toArray, List.set_cons_zero, List.set_cons_succ, i64_w, i32_w]
      rfl
    refine one_ (i := 4) (N := (some 39)) #[true, true, true, true, true, true, false, false, false, false, false, false, false, false, false, false] rfl rfl (by kernel_rfl) (by decide) (fun K hK => ?_)
    refine goes_ Try.func16 (by kernel_rfl) rfl #[ndVal n (.slice A1 k1 c1)] (by rfl) rfl rfl (by simp only [List.map_toArray, List.map_cons, List.map_nil]; rfl) ?_
    refine (h16.out _ _ hS1.out.n1).mono ?_
    rintro e X2 ⟨A2, k2, c2, rfl, hN2, hbb⟩
    refine ⟨_, rfl, ?_⟩
    have hS2 := Lib.hid (hS1.out.below hbb)
    have hN2H := Lib.hid hN2
    clear hbb hN2
    refine hK.out _ _ hS2.out.cells (fun hHeld => ?_)
    clear hK K
    refine norm_ (a' := ?_) ?_ ?_
    rotate_left
    · show Act.put _ (some 39) _ = _
      simp only [Act.put, List.setIfInBounds_toArray, List.set_cons_zero, List.set_cons_succ, i64_w, i32_w]
      rfl
    refine one_ (i := 6) (N := (some 41)) #[true, true, true, true, true, true, true, false, false, false, false, false, false, false, false, false] rfl rfl (by kernel_rfl) (by decide) (fun K hK => ?_)
    refine goes_ Try.func14 (by kernel_rfl) rfl #[ndVal a (.slice A2 k2 c2), .string T] (by rfl) rfl rfl (by simp only [List.map_toArray, List.map_cons, List.map_nil]; rfl) ?_
    refine (h14b.out _ _ hN2H.out).mono ?_
    rintro e X3 ⟨rfl, hbb⟩
    refine ⟨_, rfl, ?_⟩
    have hS3 := Lib.hid (hS2.out.below hbb)
    clear hbb
    refine hK.out _ _ hS3.out.cells (fun hHeld => ?_)
    clear hK K
    refine norm_ (a' := ?_) ?_ ?_
    rotate_left
    · show Act.put _ (some 41) _ = _
      simp only [Act.put, List.setIfInBounds_toArray, List.set_cons_zero, List.set_cons_succ, i64_w, i32_w]
      rfl
    refine pure_ (i := 7) (N := (some 42)) (v := ?_) (a' := ?_) #[true, true, true, true, true, true, true, true, false, false, false, false, false, false, false, false] rfl rfl (by kernel_rfl) (fun _ _ _ h => h) (Or.inl ⟨by rfl, ?_⟩) ?_ ?_
    rotate_left
    · intro w'
      go_simp
      with_reducible rfl
    rotate_left
    · simp only [Act.put, List.setIfInBounds_toArray, List.set_cons_zero, List.set_cons_succ, i64_w, i32_w]
      rfl
    refine pure_ (i := 8) (N := (some 43)) (v := ?_) (a' := ?_) #[true, true, true, true, true, true, true, true, true, false, false, false, false, false, false, false] rfl rfl (by kernel_rfl) (fun _ _ _ h => h) (Or.inl ⟨by rfl, ?_⟩) ?_ ?_
    rotate_left
    · intro w'
      go_simp
      with_reducible rfl
    rotate_left
    · simp only [Act.put, List.setIfInBounds_toArray, List.set_cons_zero, List.set_cons_succ, i64_w, i32_w]
      rfl
    refine take_ (i := 9) (N := (some 44)) (v := ?_) (a' := ?_) #[true, true, true, true, true, true, true, true, true, true, false, false, false, false, false, false] rfl rfl (by kernel_rfl) (fun _ _ _ h => h) (Or.inl ⟨by rfl, ?_⟩) hHeld ?_ ?_
    rotate_left
    · intro w' ⟨e0, e1, e2, e3, e4, e5, e6, e7⟩
      go_simp
      with_reducible rfl
    rotate_left
    · simp only [Act.put, List.setIfInBounds_toArray, List.set_cons_zero, List.set_cons_succ, i64_w, i32_w]
      rfl
    refine take_ (i := 11) (N := (some 46)) (v := ?_) (a' := ?_) #[true, true, true, true, true, true, true, true, true, true, false, true, false, false, false, false] rfl rfl (by kernel_rfl) (fun _ _ _ h => h) (Or.inl ⟨by rfl, ?_⟩) hHeld ?_ ?_
    rotate_left
    · intro w' ⟨e0, e1, e2, e3, e4, e5, e6, e7⟩
      go_simp
      with_reducible rfl
    rotate_left
    · simp only [Act.put, List.setIfInBounds_toArray, List.set_cons_zero, List.set_cons_succ, i64_w, i32_w]
      rfl
    refine one_ (i := 10) (N := (some 45)) #[true, true, true, true, true, true, true, true, true, true, true, true, false, false, false, false] rfl rfl (by kernel_rfl) (by decide) (fun K hK => ?_)
    refine goes_ Try.func14 (by kernel_rfl) rfl #[ndVal n (.slice A1 k1 c1), .string ⟨#[]⟩] (by rfl) rfl rfl (by simp only [List.map_toArray, List.map_cons, List.map_nil]; rfl) ?_
    refine (h14c.out _ _ hS3.out.n1).mono ?_
    rintro e X4 ⟨rfl, hbb⟩
    refine ⟨_, rfl, ?_⟩
    have hS4 := Lib.hid (hS3.out.below hbb)
    clear hbb
    refine hK.out _ _ hS4.out.cells (fun hHeld => ?_)
    clear hK K
    refine norm_ (a' := ?_) ?_ ?_
    rotate_left
    · show Act.put _ (some 45) _ = _
      simp only [Act.put, List.setIfInBounds_toArray, List.set_cons_zero, List.set_cons_succ, i64_w, i32_w]
      rfl
    refine one_ (i := 12) (N := (some 47)) #[true, true, true, true, true, true, true, true, true, true, true, true, true, false, false, false] rfl rfl (by kernel_rfl) (by decide) (fun K hK => ?_)
    refine goes_ Try.func17 (by kernel_rfl) rfl #[ndVal n (.slice A1 k1 c1)] (by rfl) rfl rfl (by simp only [List.map_toArray, List.map_cons, List.map_nil]; rfl) ?_
    refine (h17.out _ _ hS4.out.n1).mono ?_
    rintro e X5 ⟨rfl, hbb⟩
    refine ⟨_, rfl, ?_⟩
    have hS5 := Lib.hid (hS4.out.below hbb)
    clear hbb
    refine hK.out _ _ hS5.out.cells (fun hHeld => ?_)
    clear hK K
    refine norm_ (a' := ?_) ?_ ?_
    rotate_left
    · show Act.put _ (some 47) _ = _
      simp only [Act.put, List.setIfInBounds_toArray, List.set_cons_zero, List.set_cons_succ, i64_w, i32_w]
      rfl
    refine pure_ (i := 13) (N := (some 48)) (v := ?_) (a' := ?_) #[true, true, true, true, true, true, true, true, true, true, true, true, true, true, false, false] rfl rfl (by kernel_rfl) (fun _ _ _ h => h) (Or.inl ⟨by rfl, ?_⟩) ?_ ?_
    rotate_left
    · intro w'
      go_simp
      with_reducible rfl
    rotate_left
    · simp only [Act.put, List.setIfInBounds_toArray, List.set_cons_zero, List.set_cons_succ, i64_w, i32_w]
      rfl
    refine pure_ (i := 14) (N := (some 49)) (v := ?_) (a' := ?_) #[true, true, true, true, true, true, true, true, true, true, true, true, true, true, true, false] rfl rfl (by kernel_rfl) (fun _ _ _ h => h) (Or.inl ⟨by rfl, ?_⟩) ?_ ?_
    rotate_left
    · intro w'
      go_simp
      with_reducible rfl
    rotate_left
    · simp only [Act.put, List.setIfInBounds_toArray, List.set_cons_zero, List.set_cons_succ, i64_w, i32_w]
      rfl
    refine pure_ (i := 15) (N := (some 4)) (v := ?_) (a' := ?_) #[true, true, true, true, true, true, true, true, true, true, true, true, true, true, true, true] rfl rfl (by kernel_rfl) (fun _ _ _ h => h) (Or.inl ⟨by rfl, ?_⟩) ?_ ?_
    rotate_left
    · intro w'
      go_simp
      with_reducible rfl
    rotate_left
    · simp only [Act.put, List.setIfInBounds_toArray, List.set_cons_zero, List.set_cons_succ, i64_w, i32_w]
      rfl
    refine done_ (by kernel_rfl) ?_
    go_wp2
    go_ret
    exact ⟨rfl, hS5.out.b⟩
end Go.Proofs.Ytimhiacjoplkeaa
