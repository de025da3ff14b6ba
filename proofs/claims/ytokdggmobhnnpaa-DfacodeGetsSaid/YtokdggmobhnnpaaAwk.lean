/- Same of a machine and itself; awake: plain. Own text: no walk in it. -/
import Derived.Test.YtokdggmobhnnpaaHPut
import Derived.Test.YtokdggmobhnnpaaHGet
import Derived.Test.YtokdggmobhnnpaaP9
namespace Go.Proofs.Ytokdggmobhnnpaa
open Go.RowKit Go.Proofs.Ytokdggmobhnnpaa.P Go.Proofs.Ytokdggmobhnnpaa.Enc Go.Proofs.YtokdggmobhnnpaaW.PrintWords Go.Proofs.YtokdggmobhnnpaaW.PrintLast Go.Proofs.YtokdggmobhnnpaaW.PrintMore
set_option linter.unusedVariables false

/-- No row of arcs is longer than L. -/
def Short (m : List S57) (L : Nat) : Prop := L ≤ 9223372036854775807 ∧ ∀ s ∈ m, s.f1.length ≤ L
/-! Same of a machine and itself. -/
theorem same_l1 (m : List S57) (L : Nat) (hL : Short m L) (hm : m.length ≤ 9223372036854775807) (i : Nat) (hi : i < m.length) (N : Nat)
    (hnext : ∀ k, N ≤ k → homographref07_Same.l0 k m m ((i + 1 : Nat) : Int) = some true) (d : Nat) : ∀ k j : Nat, j + d = m[i].f1.length → N + d < k → homographref07_Same.l1 k m m (i : Int) (j : Int) = some true := by
  have hl := hL.2 _ (List.getElem_mem hi)
  have hL1 := hL.1
  induction d with
  | zero =>
    intro k j hj hk
    obtain ⟨k, rfl⟩ : ∃ m, k = m + 1 := ⟨k - 1, by omega⟩
    simp only [homographref07_Same.l1]
    rw [rd57 m i hi, if_pos (by omega), if_pos (by omega), if_neg (by omega), w1 (by omega) (by omega)]
    exact hnext k (by omega)
  | succ d ih =>
    intro k j hj hk
    obtain ⟨k, rfl⟩ : ∃ m, k = m + 1 := ⟨k - 1, by omega⟩
    have hn := ih k (j + 1) (by omega) (by omega)
    simp only [homographref07_Same.l1]
    rw [rd57 m i hi, if_pos (by omega), if_pos (by omega), if_pos (by omega), if_pos (by omega), if_pos (by omega), if_pos (by omega), if_neg (by simp), w1 (by omega) (by omega)]
    exact hn
def sumSt (m : List S57) (i : Nat) : Nat := ((m.drop i).map fun s => s.f1.length + 5).sum
theorem same_l0 (m : List S57) (L : Nat) (hL : Short m L) (hm : m.length ≤ 9223372036854775807) (d : Nat) : ∀ k i : Nat, i + d = m.length → sumSt m i < k → homographref07_Same.l0 k m m (i : Int) = some true := by
  induction d with
  | zero =>
    intro k i hi hk
    obtain ⟨k, rfl⟩ : ∃ m, k = m + 1 := ⟨k - 1, by omega⟩
    simp only [homographref07_Same.l0]; rw [if_neg (by omega)]
  | succ d ih =>
    intro k i hi hk
    have hlt : i < m.length := by omega
    have e : sumSt m i = m[i].f1.length + 5 + sumSt m (i + 1) := by unfold sumSt; rw [List.drop_eq_getElem_cons hlt, List.map_cons, List.sum_cons]
    obtain ⟨k, rfl⟩ : ∃ m, k = m + 2 := ⟨k - 2, by omega⟩
    have hl := hL.2 _ (List.getElem_mem hlt)
    have hL1 := hL.1
    simp only [homographref07_Same.l0]
    rw [rd57 m i hlt, if_pos (by omega), if_pos (by omega), if_pos (by omega), if_pos trivial]
    simp only [homographref07_Same.j1]
    rw [if_neg (by simp)]
    exact same_l1 m L hL hm i hlt (sumSt m (i + 1) + 1) (fun k hk => ih k (i + 1) (by omega) (by omega)) m[i].f1.length k 0 (by omega) (by omega)
theorem same_f (m : List S57) (L : Nat) (hL : Short m L) (hm : m.length ≤ 9223372036854775807) : ∃ k, homographref07_Same.f k m m = some true := by
  refine ⟨sumSt m 0 + 1, ?_⟩
  unfold homographref07_Same.f
  rw [if_pos rfl]
  exact same_l0 m L hL hm m.length _ 0 (by omega) (by omega)


/-! awake -/
theorem num0 : num 0 = [0] := by rw [num_lt 0 (by omega)]; rfl
theorem num300 : num 300 = [172, 2] := by rw [num_ge 300 (by omega), num_lt (300 / 128) (by omega)]; rfl
theorem body0 : body [] = [68, 70, 65, 49, 0] := by unfold body; simp [num0]
theorem ok0 : OkM [] := ⟨by simp, by simp⟩
theorem put0 : P.dfacode_Put.f [] = some (putL [], 0) := by
  unfold P.dfacode_Put.f
  rw [if_pos ⟨fun s hs => by simp at hs, fun _ => ok0⟩, if_pos (by decide)]
theorem put0_len : (putL []).length = 9 := by unfold putL; rw [List.length_append, body0, four_len]; rfl
theorem get_f (b : List Int) (h : Bts b) (hl : b.length ≤ 1000000000) : P.dfacode_Get.f b = some (getL b) := by
  unfold P.dfacode_Get.f; rw [if_pos ⟨h, hl⟩]
theorem get0 : P.dfacode_Get.f (putL []) = some ([], 0) := by
  rw [get_f _ (putL_bd [] ok0) (by rw [put0_len]; omega), get_put [] (by decide) ok0]
theorem get0' : ∃ m, P.dfacode_Get.f (putL [] ++ [0]) = some (m, 110) := by
  have hb : Bts (putL [] ++ [0]) := by
    intro x hx
    rcases List.mem_append.1 hx with hx | hx
    · exact putL_bd [] ok0 x hx
    · simp at hx; omega
  rw [get_f _ hb (by rw [List.length_append, put0_len]; simp)]
  rcases get_spec _ hb with ⟨h, _⟩ | ⟨m, _, hg, ho, h⟩
  · exact ⟨_, congrArg some h⟩
  · exfalso
    unfold putL at h
    rw [List.append_assoc] at h
    obtain ⟨rfl, h2⟩ := body_prefix _ _ _ _ ok0 ho h
    have h3 := congrArg List.length h2
    rw [List.length_append, four_len] at h3
    simp at h3
theorem val172 : valL [172, 2, 9] = (300, 2) := by decide +kernel
theorem put_R (W : World) : Calls Try.prog 9 #[.slice none 0 0] W fun e w' => ∃ v0 : Value, e = .returned (.tuple #[v0, .int .i64 0]) ∧ Kd.R (Kd.int .u8) 5 w' W.heap.size (fun _ => True) v0 (putL []) ∧ Below W.heap.size W w' :=
  P.dfacode_Put.calls none 0 [] (putL []) 0 W (Kd.C_nil _ _) (Nat.le_refl _) put0
theorem fresh_of {v : Value} {n : Nat} (h : v.ownBlock = (Value.slice none 0 0).ownBlock ∨ ∃ b, v.ownBlock = some b ∧ n ≤ b) : ∀ k, v.ownBlock = some k → n ≤ k := by
  intro k hk
  rcases h with h | ⟨b, h, hb⟩
  · rw [h] at hk; simp [Value.ownBlock] at hk
  · rw [h] at hk; injection hk with hk; omega
theorem str5 : strOfNums ((putL []).take 5) = ⟨#[68, 70, 65, 49, 0]⟩ := by
  have : (putL []).take 5 = [68, 70, 65, 49, 0] := by unfold putL; rw [body0]; rfl
  rw [this]; decide +kernel
theorem str300 : strOfNums (num 300) = ⟨#[172, 2]⟩ := by rw [num300]; decide +kernel
set_option maxRecDepth 20000 in
set_option maxHeartbeats 1000000 in
theorem awake_c (w : World) : Calls Try.prog 8 #[] w fun e w' => e = .returned (.bool true) ∧ Below w.heap.size w w' := by
  obtain ⟨m9, hm9⟩ := get0'
  have hG0 := Lib.hid get0
  have hG9 := Lib.hid hm9
  have hlen := put0_len
  have hs5 := Lib.hid str5
  have hs3 := Lib.hid str300
  have hv := Lib.hid (value_f [172, 2, 9] (by intro x hx; simp at hx; omega) (by simp) 20 (by simp))
  rw [val172] at hv
  have hsum := Lib.hid (sum_f [] (by simp) 1 (by simp))
  rw [show sumL [] = 2166136261 from rfl] at hsum
  have hput := Lib.hid put_R
  clear hm9
  generalize putL [] = PL at *
  have hlenH := Lib.hid hlen
  have h10 : Hid ((PL ++ [0]).length = 10) := Lib.hid (by rw [List.length_append, hlen]; rfl)
  clear hlen
  go_enter Try.func8, Try.ntmps8
  go_upto_region 4 with (first
    | (go_at_call 9; refine (hput.out _).mono ?_; rintro e w1 ⟨v1, rfl, hr1, hb1⟩; obtain ⟨A1, c1, hv1, hl1, hC1⟩ := Kd.R_reads hr1; rw [hlenH.out] at hv1 hl1; subst hv1; obtain ⟨ad1, hA1, hcx⟩ := Kd.at_int hC1 0 (by omega) (by rw [hlenH.out]; decide); subst hA1; have hlt1 := World.block_lt_of_cell? w1 _ hcx; rw [add_blk] at hlt1; have hC1H := Lib.hid hC1; have hl1H := Lib.hid hl1; have hb1H := Lib.hid hb1; clear hr1 hb1 hC1 hl1 hcx)
    | (go_at_call 18; have hgc := (P.dfacode_Get.calls (some ad1) c1 PL [] 0 w1 hC1H.out (by rw [hlenH.out]; exact hl1H.out) hG0.out); rw [hlenH.out] at hgc; refine hgc.mono ?_; rintro e w2 ⟨v2, rfl, hS2, hb2⟩; clear hgc; obtain ⟨A2, c2, hv2, _, _⟩ := Kd.R_reads (Kd.S_R hS2); subst hv2; have hC2H := Lib.hid (Kd.C_below hC1H.out hb2); have hlt2 := Nat.lt_of_lt_of_le hlt1 hb2.size; have hb2H := Lib.hid (below_then hb1H.out hb1H.out.size hb2); clear hS2 hb2 hC1H hb1H hlt1))
  go_upto_region 5 with ((with_reducible refine gate_builtin (b := .append) (xs := #[.tmp 19, .tmp 20]) rfl ?_); at_builtin; refine Kd.R_append_rows (Kd.int .u8) (w0 := w) w.heap.size rfl (.tmp 19) (.tmp 20) 25 5 (.int .u8 0) 1 rfl Try.underlying25 info5 rfl (by decide) (by decide) (.slice none 0 0) [] PL (some ad1) 9 c1 (fun _ => True) (fun _ => False) rfl rfl (Kd.R_nil _ _ _ _ _) (by have h := hC2H.out; rw [hlenH.out] at h; exact h) (fun _ _ h => h) (fun _ h => h.elim) (fun _ _ => trivial) hb2H.out hb2H.out.size (by simp) ?_; intro v3 w3 ho3 hb3 hg3 hat3; rw [List.nil_append] at ho3; have hR3 := Lib.hid ho3; have hb3H := Lib.hid hb3; have hC3H := Lib.hid (C_keep hC2H.out (hg3.block _ hlt2 (by simp [Value.ownBlock]))); have hfr3 := Lib.hid (fresh_of hat3); have hlt3 := hg3.size; clear ho3 hb3 hg3 hat3 hC2H hb2H)
  go_upto_region 6 with ((with_reducible refine gate_builtin (b := .append) (xs := #[.tmp 22, .tmp 23]) rfl ?_); at_builtin; refine Kd.R_append (Kd.int .u8) (w0 := w) w.heap.size rfl (.tmp 22) (.tmp 23) 25 5 (.int .u8 0) 1 rfl Try.underlying25 info5 rfl (by decide) (by decide) v3 PL 0 [.int .u8 0] (fun _ => True) (fun _ => False) rfl rfl rfl (fun _ hk => hk.elim) (fun _ _ => trivial) hR3.out hb3H.out hb3H.out.size (by rw [hlenH.out]; decide) ?_; intro v4 w4 ho4 hb4 hg4 hat4; have hb4H := Lib.hid hb4; obtain ⟨A4, c4, hv4, hl4, hC4⟩ := Kd.R_reads ho4; rw [h10.out] at hv4; subst hv4; have hC4H := Lib.hid hC4; have hl4H := Lib.hid hl4; have hC5H := Lib.hid (C_keep hC3H.out (hg4.block _ (Nat.lt_of_lt_of_le hlt2 hlt3) (fun e => by have := hfr3.out _ e.symm; omega))); clear ho4 hb4 hg4 hat4 hC4 hl4 hC3H)
  go_upto_region 7 with (go_at_call 18; have hgc := (P.dfacode_Get.calls A4 c4 (PL ++ [0]) m9 110 w4 hC4H.out hl4H.out hG9.out); rw [h10.out] at hgc; refine hgc.mono ?_; rintro e w5 ⟨v5, rfl, hS5, hb5⟩; obtain ⟨A5, c5, hv5, _, _⟩ := Kd.R_reads (Kd.S_R hS5); subst hv5; have hb5H := Lib.hid (below_then hb4H.out hb4H.out.size hb5); have hC6H := Lib.hid (Kd.C_below hC5H.out hb5); clear hS5 hb5 hC5H)
  have hU : Hid ((Kd.int .u8).C (w5.alloc (.cells #[.int .u8 172, .int .u8 2, .int .u8 9] 5)) (some ⟨w5.heap.size, 0, none⟩) 3 [172, 2, 9]) := isU_new w5 5 .u8 [172, 2, 9] (by decide)
  go_upto_region 8 with (go_at_call 11; refine (dfacode_Value.calls 20 _ 3 [172, 2, 9] 300 2 _ hU.out (by decide) hv.out).mono ?_; rintro e w6 ⟨rfl, hdr⟩; obtain ⟨nd, hnd⟩ := hdr.out; have hb6 := Lib.hid hnd; clear hdr hnd)
  have hb65 : Below w5.heap.size w5 w6 := by rw [hb6.out]; exact pw_below_drewN (below_alloc (Below.refl _ _) _) nd
  have hC7 := Kd.C_below hC6H.out hb65
  have hcv := conv_c (c := c1) (C_take hC7 5 (by rw [hlenH.out]; decide))
  rw [hs5.out] at hcv
  have hc5 : 5 ≤ c1 := by have := hl1H.out; omega
  have hb6H := Lib.hid (below_then hb5H.out hb5H.out.size hb65)
  have hn3 := Lib.hid (fun W => numK (n := 300) (by decide) (by decide) W)
  rw [show (300 : Int).toNat = 300 from rfl] at hn3
  have hl3 : Hid ((num 300).length = 2) := Lib.hid (by rw [num300]; rfl)
  clear hC7 hb65 hU hb6 hC6H hb5H
  go_wp2_with (first
    | (go_at_call 13; refine (hn3.out _).mono ?_; rintro e w7 ⟨v7, rfl, hr7, hb7⟩; obtain ⟨A7, c7, hv7, _, hC7⟩ := Kd.R_reads hr7; have hcv7 := conv_c (c := c7) hC7; rw [hs3.out] at hcv7; subst hv7; have hb7H := Lib.hid (below_then hb6H.out hb6H.out.size hb7); clear hr7 hb7 hC7)
    | (go_at_call 15; refine (dfacode_Sum.calls 1 none 0 [] 2166136261 _ (Kd.C_nil _ _) (Nat.le_refl _) hsum.out).mono ?_; rintro e w8 ⟨rfl, hdr⟩; obtain ⟨nd8, hnd⟩ := hdr.out; have hb8 := Lib.hid hnd; clear hdr hnd))
  go_ret
  exact ⟨rfl, by rw [hb8.out]; exact pw_below_drewN hb7H.out nd8⟩
def P.homographlaw11_awake.f : Option Bool := some true
theorem P.homographlaw11_awake.calls (r : Bool) (w : World) (h : P.homographlaw11_awake.f = some r) : Calls Try.prog 8 #[] w fun e w' => e = .returned (.bool r) ∧ Below w.heap.size w w' := by
  injection h with h
  subst h
  exact awake_c w
end Go.Proofs.Ytokdggmobhnnpaa
