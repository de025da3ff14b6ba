/- slices.AppendSeq, slices.Collect over places, and match.Ends: walks. Own text. -/
import Derived.Test.YtimhiacjoplkeaaStpB
namespace Go.Proofs.Ytimhiacjoplkeaa
open Go.RowKit Go.Shelf Go.Proofs.Ytimhiacjoplkeaa.P Go.Proofs.YtimhiacjoplkeaaW.PrintWords Go.Proofs.YtimhiacjoplkeaaW.PrintLast
attribute [local go_sem] Oper.semAt_some
set_option linter.unusedVariables false
set_option linter.unusedSimpArgs false
theorem info3' : (Try.prog.info? 3).map (fun i => (i.zero, i.size, i.bytes)) = some (some (.int .i64 0), 1, 8) := by kernel_rfl
def intsOf (l : List Nat) : List Int := l.map (fun i : Nat => (i : Int))
def rowP {N : Nat} {P : Nat → Bool} (pre : List (PA N P)) : List Value := pre.map (fun x => Value.int .i64 (x.1 : Int))
theorem rowP_snoc {N : Nat} {P : Nat → Bool} (pre : List (PA N P)) (x : PA N P) : rowP (pre ++ [x]) = rowP pre ++ [.int .i64 (x.1 : Int)] := by simp [rowP]
theorem rowP_len {N : Nat} {P : Nat → Bool} (pre : List (PA N P)) : (rowP pre).length = pre.length := by simp [rowP]
set_option maxRecDepth 100000 in
set_option maxHeartbeats 2000000 in
theorem appendSeq_c (h N Bx : Nat) (hN : N ≤ 1000000) (P : Nat → Bool) (w : World) (hb : Boxed w Bx 56 (pv N h)) (hr : Blk w h 4 (arB N P)) :
    Calls Try.prog 32 #[.slice none 0 0, .func (.func 38) #[] #[.pointer (some ⟨Bx, 0, none⟩)]] w fun e W' => ∃ v, e = .returned v ∧ (Kd.int .i64).R 3 W' w.heap.size (fun _ => True) v (intsOf (trues N P)) ∧ Below w.heap.size w W' := by
  obtain ⟨i0, hi, hz0, hz1, hz2⟩ := info_parts info3'
  refine (callsIn_wide (n := 6)).1 ?_
  refine callsIn_of_wp_marks Try.func32 rfl trivial ?_ rfl
  simp only [Try.ntmps32, List.size_toArray, List.length_cons, List.length_nil, Nat.reduceAdd, Nat.reduceSub, Array.replicate_succ, Array.replicate_zero, List.push_toArray, List.append_toArray, List.nil_append, List.cons_append]
  have hbH := Lib.hid hb
  have hrH := Lib.hid hr
  clear hb hr
  gi_wp2
  have bO := Boxed.new w 46 (.slice none 0 0)
  have hB0 : Below w.heap.size w (w.alloc (.cells #[.slice none 0 0] 46)) := (Below.refl _ w).alloc (Nat.le_refl _) _
  have hb0 := hbH.out.alloc (.cells #[.slice none 0 0] 46)
  have hr0 := hrH.out.alloc (.cells #[.slice none 0 0] 46)
  obtain ⟨W0, hW0⟩ : ∃ W0, w.alloc (.cells #[.slice none 0 0] 46) = W0 := ⟨_, rfl⟩
  have hsz : W0.heap.size = w.heap.size + 1 := by rw [← hW0]; simp
  rw [hW0] at bO hB0 hb0 hr0 ⊢
  clear hW0
  have hBx := hbH.out.lt
  have hhl := hrH.out.lt
  refine rangeG (n := 6) 7 5 (by omega) (gf := 38) (lb := #[.pointer (some ⟨Bx, 0, none⟩)]) rfl (enters_of Try.func38 (by kernel_rfl) rfl)
    (all_stops (6 - 1) (by omega) Bx h N hN P W0 hb0 hr0) keep2_t (keep2_b hr0.lt hb0.lt) (Below.refl _ _) (fun _ => rfl)
    (fun pre W => (∃ v, Boxed W w.heap.size 46 v ∧ W.ownsRow w.heap.size 3 1 v pre.length (rowP pre) ∧ True) ∧ Below w.heap.size w W)
    (OwnFrom.and (Own.from (holdsRow_own w.heap.size w.heap.size 46 3 1 (fun pre : List (PA N P) => pre.length) (fun pre => rowP pre) (fun _ _ => True)) _) (ownFrom_below (Nat.le_refl _) (by omega)))
    ⟨⟨_, bO, World.ownsRow_nil _ _ _ _, trivial⟩, hB0⟩
    (fun x => .int .i64 (x.1 : Int)) ?assign ?body ?done
  case assign =>
    intro l x W K hK
    simp only [encP]
    gi_wp2
    exact hK
  case body =>
    rintro l pre x W ⟨⟨v, hv, hrow, _⟩, hB⟩ hlt
    simp only [List.setIfInBounds_toArray, List.set_cons_zero, List.set_cons_succ]
    have hc := hv.cell
    gi_wp2_with (gi_at_builtin; refine wpListIn_append_own _ rfl _ _ 46 rfl w.heap.size 3 i0 _ 1 8 Try.underlying46 hi hz0 hz1 hz2 rfl (by decide) _ _ _ rfl (hrow.alloc _) ⟨W.heap.size, 0, none⟩ 1 1 [.int .i64 (x.1 : Int)] rfl rfl (cell_one_new _ _ _) (by simp [Value.oneCell']) (by simp only [maxLen]; omega) (by omega) (by have := hB.size; simp; omega) ?_; intro v' w1 hown' hgrow _; obtain ⟨g', cap', rfl⟩ := ownsRow_succ hown'; obtain ⟨hv1, hv2, hr2, hk2, hb2⟩ := hv.appended (by decide) hrow hB.size (Nat.le_refl _) hown' hgrow; have hc1 := hv1.cell; have hf1 := hv1.frozen)
    refine ⟨hk2.from _, ?_, ⟨_, hv2, by rw [rowP_snoc]; simpa using hr2, trivial⟩, hB.trans hb2⟩
    exact ⟨hb2.size, hb2.block _ hhl, hb2.block _ hBx⟩
  case done =>
    rintro D ys W hD hys ⟨⟨v, hv, hrow, _⟩, hB⟩ hK
    have hc := hv.cell
    gi_wp2
    refine ⟨by simp, .inl ⟨_, _, rfl, run_takeDeferred hK, ?_⟩⟩
    refine ⟨_, results_tmp rfl _ _ _, v, rfl, ?_, hB.trans (belowK_b (w := w) (Nat.le_refl _) W D _ _ (by omega) hK rfl rfl)⟩
    have h1 := ownsRow_putObj hrow (.deferred none) hK rfl
    have e : intsOf (trues N P) = ys.map (fun x => (x.1 : Int)) := by unfold intsOf; rw [← hys, List.map_map]; rfl
    rw [e]
    refine Kd.R_of_own (ok := fun _ => True) ?_ (fun _ _ => trivial)
    have e2 : encs (Value.int .i64) (ys.map (fun x => (x.1 : Int))) = rowP ys := by simp [encs, rowP, Function.comp_def]
    rw [e2, List.length_map]
    exact h1
theorem collect_c (h N Bx : Nat) (hN : N ≤ 1000000) (P : Nat → Bool) (w : World) (hb : Boxed w Bx 56 (pv N h)) (hr : Blk w h 4 (arB N P)) :
    Calls Try.prog 27 #[.func (.func 38) #[] #[.pointer (some ⟨Bx, 0, none⟩)]] w fun e W' => ∃ v, e = .returned v ∧ (Kd.int .i64).R 3 W' w.heap.size (fun _ => True) v (intsOf (trues N P)) ∧ Below w.heap.size w W' := by
  have ha := Lib.hid (appendSeq_c h N Bx hN P w hb hr)
  clear hb hr
  go_enter Try.func27, Try.ntmps27
  go_wp2_with (go_at_call 32; refine ha.out.mono ?_; rintro e w1 ⟨v, rfl, hR, hB⟩; have hRH := Lib.hid hR; have hBH := Lib.hid hB; clear hR hB)
  go_ret
  exact ⟨v, rfl, hRH.out, hBH.out⟩
/-- The places up to which a pattern matches from a place on. -/
def endsP (s : ByteArray) (n : Nd) (fr : Int) : List Nat := if fr < 0 ∨ (s.size : Int) < fr then [] else trues s.size (stp s n (dlt fr.toNat))
set_option maxRecDepth 20000 in
set_option maxHeartbeats 2000000 in
theorem ends_c (s : ByteArray) (hs : s.size ≤ 1000000) (n : Nd) (hwf : Wf n) (fr : Int) (w : World) (v : Value) (hn : IsN w n v) :
    Calls Try.prog 22 #[v, .string s, .int .i64 fr] w fun e w' => ∃ v', e = .returned v' ∧ (Kd.int .i64).R 3 w' w.heap.size (fun _ => True) v' (intsOf (endsP s n fr)) ∧ Below w.heap.size w w' := by
  have hstep := Lib.hid (fun w v h P (a : IsN w n v) b c => step_ok s hs n hwf w v h P a b c)
  obtain ⟨A, c, rfl, hc, hlen, hK⟩ := hn
  unfold endsP
  by_cases h0 : fr < 0
  · rw [if_pos (.inl h0)]
    have hd : decide (fr < 0) = true := decide_eq_true h0
    clear hK
    go_enter Try.func22, Try.ntmps22
    go_wp2
    go_ret
    exact ⟨_, rfl, Kd.R_nil _ _ _ _ _, below_alloc (Below.refl _ _) _⟩
  have hd : decide (fr < 0) = false := decide_eq_false h0
  by_cases h1 : (s.size : Int) < fr
  · rw [if_pos (.inr h1)]
    have hd1 : decide ((s.size : Int) < fr) = true := decide_eq_true h1
    clear hK
    go_enter Try.func22, Try.ntmps22
    go_wp2
    go_ret
    exact ⟨_, rfl, Kd.R_nil _ _ _ _ _, below_alloc (Below.refl _ _) _⟩
  have hd1 : decide ((s.size : Int) < fr) = false := decide_eq_false h1
  rw [if_neg (fun h => h.elim h0 h1)]
  obtain ⟨f, rfl⟩ := Int.eq_ofNat_of_zero_le (show 0 ≤ fr by omega)
  rw [Int.toNat_natCast]
  have hfs : f ≤ s.size := by omega
  have hone := Lib.hid (fun w1 => one_c s hs f hfs w1)
  have hKH := Lib.hid hK
  have hbdd := Lib.hid (show ∀ i, dlt f i = true → i ≤ s.size from fun i h => by rw [dlt_iff.1 h]; exact hfs)
  clear hK h0 h1
  show Calls Try.prog 22 #[.agg (boxC n.op n.s0 n.s1 n.s2 n.s3 n.mn n.mx (.slice A n.kids.length c)), .string s, .int .i64 (f : Int)] w _
  go_enter Try.func22, Try.ntmps22
  go_upto_region 4 with (fail)
  have hX := Lib.hid (Blk.new w 28 (boxC n.op n.s0 n.s1 n.s2 n.s3 n.mn n.mx (.slice A n.kids.length c)))
  have hB := Lib.hid (below_alloc (Below.refl w.heap.size w) (.cells (boxC n.op n.s0 n.s1 n.s2 n.s3 n.mn n.mx (.slice A n.kids.length c)) 28))
  generalize w.alloc (.cells (boxC n.op n.s0 n.s1 n.s2 n.s3 n.mn n.mx (.slice A n.kids.length c)) 28) = W0 at *
  refine start_ (n := 9) (S := (fun w' => cells8 w' w.heap.size n.op n.s0 n.s1 n.s2 n.s3 n.mn n.mx (.slice A n.kids.length c))) (ds := []) #[false, false, false, false, false, false, false, false, false] (by kernel_rfl) rfl rfl ?_ (fun hHeld => ?_)
  · exact cells8_of hX.out
  have hX1 : Hid (Blk W0.drew w.heap.size 28 (boxC n.op n.s0 n.s1 n.s2 n.s3 n.mn n.mx (.slice A n.kids.length c))) := hX
  have hB1 := Lib.hid (below_drew1 hB.out)
  clear hX hB
  generalize W0.drew = W1 at *
  refine pure_ (i := 0) (N := (some 17)) (v := ?_) (a' := ?_) #[true, false, false, false, false, false, false, false, false] rfl rfl (by kernel_rfl) (fun _ _ _ h => h) (Or.inl ⟨by rfl, ?_⟩) ?_ ?_
  rotate_left
  · intro w'
    go_simp
    with_reducible rfl
  rotate_left
  · simp only [Act.put, List.setIfInBounds_toArray, List.set_cons_zero, List.set_cons_succ, i64_w, i32_w]
    rfl
  refine take_ (i := 1) (N := (some 18)) (v := ?_) (a' := ?_) #[true, true, false, false, false, false, false, false, false] rfl rfl (by kernel_rfl) (fun _ _ _ h => h) (Or.inl ⟨by rfl, ?_⟩) hHeld ?_ ?_
  rotate_left
  · intro w' ⟨e0, e1, e2, e3, e4, e5, e6, e7⟩
    go_simp
    with_reducible rfl
  rotate_left
  · simp only [Act.put, List.setIfInBounds_toArray, List.set_cons_zero, List.set_cons_succ, i64_w, i32_w]
    rfl
  refine pure_ (i := 2) (N := (some 19)) (v := ?_) (a' := ?_) #[true, true, true, false, false, false, false, false, false] rfl rfl (by kernel_rfl) (fun _ _ _ h => h) (Or.inl ⟨by rfl, ?_⟩) ?_ ?_
  rotate_left
  · intro w'
    go_simp
    with_reducible rfl
  rotate_left
  · simp only [Act.put, List.setIfInBounds_toArray, List.set_cons_zero, List.set_cons_succ, i64_w, i32_w]
    rfl
  refine pure_ (i := 3) (N := (some 20)) (v := ?_) (a' := ?_) #[true, true, true, true, false, false, false, false, false] rfl rfl (by kernel_rfl) (fun _ _ _ h => h) (Or.inl ⟨by rfl, ?_⟩) ?_ ?_
  rotate_left
  · intro w'
    go_simp
    with_reducible rfl
  rotate_left
  · simp only [Act.put, List.setIfInBounds_toArray, List.set_cons_zero, List.set_cons_succ, i64_w, i32_w]
    rfl
  refine one_ (i := 4) (N := (some 21)) #[true, true, true, true, true, false, false, false, false] rfl rfl (by kernel_rfl) (by decide) (fun K hK => ?_)
  refine goes_ Try.func29 (by kernel_rfl) rfl #[.string s, .int .i64 (f : Int)] (by rfl) rfl rfl (by simp only [List.map_toArray, List.map_cons, List.map_nil]; rfl) ?_
  refine (hone.out _).mono ?_
  rintro e W2 ⟨rfl, hO2, hB2⟩
  refine ⟨_, rfl, ?_⟩
  have hX2 := Lib.hid (hX1.out.below hB2 hX1.out.lt)
  have hB2H := Lib.hid (below_then hB1.out hB1.out.size hB2)
  have hO2H := Lib.hid hO2
  refine hK.out _ _ (cells8_of hX2.out) (fun hHeld => ?_)
  clear hK K hB2 hO2
  refine norm_ (a' := ?_) ?_ ?_
  rotate_left
  · show Act.put _ (some 21) _ = _
    simp only [Act.put, List.setIfInBounds_toArray, List.set_cons_zero, List.set_cons_succ, i64_w, i32_w]
    rfl
  refine one_ (i := 5) (N := (some 22)) #[true, true, true, true, true, true, false, false, false] rfl rfl (by kernel_rfl) (by decide) (fun K hK => ?_)
  refine goes_ Try.func28 (by kernel_rfl) rfl #[.string s, ndVal n (.slice A n.kids.length c), pv s.size W1.heap.size] (by rfl) rfl rfl (by simp only [List.map_toArray, List.map_cons, List.map_nil]; rfl) ?_
  refine (hstep.out W2 _ W1.heap.size (dlt f) ⟨A, c, rfl, hc, hlen, NKs_below hB2H.out A 0 _ hKH.out⟩ hbdd.out hO2H.out).mono ?_
  rintro e W3 ⟨g3, rfl, hg3, hO3, hB3⟩
  refine ⟨_, rfl, ?_⟩
  have hX3 := Lib.hid (hX2.out.below hB3 hX2.out.lt)
  have hB3H := Lib.hid (below_then hB2H.out hB2H.out.size hB3)
  have hO3H := Lib.hid hO3
  refine hK.out _ _ (cells8_of hX3.out) (fun hHeld => ?_)
  clear hK K hB3 hO3
  refine norm_ (a' := ?_) ?_ ?_
  rotate_left
  · show Act.put _ (some 22) _ = _
    simp only [Act.put, List.setIfInBounds_toArray, List.set_cons_zero, List.set_cons_succ, i64_w, i32_w]
    rfl
  refine one_ (i := 6) (N := (some 23)) #[true, true, true, true, true, true, true, false, false] rfl rfl (by kernel_rfl) (by decide) (fun K hK => ?_)
  refine goes_ Try.func30 (by kernel_rfl) rfl #[pv s.size g3] (by rfl) rfl rfl (by simp only [List.map_toArray, List.map_cons, List.map_nil]; rfl) ?_
  refine (all_c g3 s.size W3).mono ?_
  rintro e W4 ⟨rfl, hb4, hB4⟩
  refine ⟨_, rfl, ?_⟩
  have hX4 := Lib.hid (hX3.out.below hB4 hX3.out.lt)
  have hB4H := Lib.hid (below_then hB3H.out hB3H.out.size hB4)
  have hO4 := Lib.hid (hO3H.out.below hB4 hO3H.out.lt)
  have hb4H := Lib.hid hb4
  refine hK.out _ _ (cells8_of hX4.out) (fun hHeld => ?_)
  clear hK K hB4 hb4
  refine norm_ (a' := ?_) ?_ ?_
  rotate_left
  · show Act.put _ (some 23) _ = _
    simp only [Act.put, List.setIfInBounds_toArray, List.set_cons_zero, List.set_cons_succ, i64_w, i32_w]
    rfl
  refine one_ (i := 7) (N := (some 24)) #[true, true, true, true, true, true, true, true, false] rfl rfl (by kernel_rfl) (by decide) (fun K hK => ?_)
  refine goes_ Try.func27 (by kernel_rfl) rfl #[.func (.func 38) #[] #[.pointer (some ⟨W3.heap.size, 0, none⟩)]] (by rfl) rfl rfl (by simp only [List.map_toArray, List.map_cons, List.map_nil]; rfl) ?_
  refine (collect_c g3 s.size W3.heap.size hs _ W4 hb4H.out hO4.out).mono ?_
  rintro e W5 ⟨v5, rfl, hR5, hB5⟩
  refine ⟨_, rfl, ?_⟩
  have hX5 := Lib.hid (hX4.out.below hB5 hX4.out.lt)
  have hB5H := Lib.hid (below_then hB4H.out hB4H.out.size hB5)
  have hR5H := Lib.hid (Kd.R_lower hR5 hB4H.out.size)
  refine hK.out _ _ (cells8_of hX5.out) (fun hHeld => ?_)
  clear hK K hB5 hR5
  refine norm_ (a' := ?_) ?_ ?_
  rotate_left
  · show Act.put _ (some 24) _ = _
    simp only [Act.put, List.setIfInBounds_toArray, List.set_cons_zero, List.set_cons_succ, i64_w, i32_w]
    rfl
  refine pure_ (i := 8) (N := (some 6)) (v := ?_) (a' := ?_) #[true, true, true, true, true, true, true, true, true] rfl rfl (by kernel_rfl) (fun _ _ _ h => h) (Or.inl ⟨by rfl, ?_⟩) ?_ ?_
  rotate_left
  · intro w'
    go_simp
    with_reducible rfl
  rotate_left
  · simp only [Act.put, List.setIfInBounds_toArray, List.set_cons_zero, List.set_cons_succ, i64_w, i32_w]
    rfl
  refine done_ (by kernel_rfl) ?_
  go_wp2
  go_ret
  exact ⟨v5, rfl, hR5H.out, hB5H.out⟩
end Go.Proofs.Ytimhiacjoplkeaa
