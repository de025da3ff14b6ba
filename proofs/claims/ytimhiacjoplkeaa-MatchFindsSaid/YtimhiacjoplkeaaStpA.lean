/- step: the cases Cat, Alt, Rep. Own text (printed by wip/c04/gen_stp.py). -/
import Derived.Test.YtimhiacjoplkeaaApt
import Derived.Test.YtimhiacjoplkeaaRnd
namespace Go.Proofs.Ytimhiacjoplkeaa
open Go.RowKit Go.Shelf Go.Proofs.Ytimhiacjoplkeaa.P Go.Proofs.YtimhiacjoplkeaaW.PrintWords Go.Proofs.YtimhiacjoplkeaaW.PrintLast
attribute [local go_sem] Oper.semAt_some
set_option linter.unusedVariables false
set_option linter.unusedSimpArgs false
theorem stpC_snoc (s : ByteArray) (k : Nd) : ∀ (ks : List Nd) (P : Nat → Bool), stpC s (ks ++ [k]) P = stp s k (stpC s ks P)
  | [], P => by simp [stpC]
  | k' :: ks, P => by
    rw [List.cons_append]
    show stpC s (k' :: (ks ++ [k])) P = stp s k (stpC s (k' :: ks) P)
    simp only [stpC]
    exact stpC_snoc s k ks _
theorem stpA_snoc (s : ByteArray) (k : Nd) (P : Nat → Bool) (i : Nat) : ∀ ks : List Nd, stpA s (ks ++ [k]) P i = orP (stpA s ks P) (stp s k P) i
  | [] => by simp [stpA, orP]
  | k' :: ks => by
    have h := stpA_snoc s k P i ks
    simp only [orP] at h ⊢
    rw [List.cons_append]
    simp only [stpA]
    rw [h, Bool.or_assoc]
theorem stpC_bd (s : ByteArray) {P : Nat → Bool} (hP : ∀ i, P i = true → i ≤ s.size) (ks : List Nd) : ∀ i, stpC s ks P i = true → i ≤ s.size := lin_bd (stpC_lin s ks) hP
set_option maxRecDepth 100000 in
set_option maxHeartbeats 4000000 in
theorem step_cat (s : ByteArray) (hs : s.size ≤ 1000000) (op s0 s1 s2 s3 mn mx : Int) (ks : List Nd) (hk : ∀ k ∈ ks, StepOk s k) (hop : op = 1) : StepOk s (.mk op s0 s1 s2 s3 mn mx ks) := by
  intro w v h P hn hP hr
  obtain ⟨A, c, rfl, hc, hlen, hK⟩ := hn
  simp only [op_mk, s0_mk, s1_mk, s2_mk, s3_mk, mn_mk, mx_mk, kids_mk] at hc hlen hK ⊢
  have hst : stp s (.mk op s0 s1 s2 s3 mn mx ks) = stpC s ks := by unfold stp; rw [if_neg (by omega), if_pos hop]
  rw [hst]
  clear hst
  subst hop
  have hKH := Lib.hid hK
  have hkH := Lib.hid hk
  have hPH := Lib.hid hP
  have hrH := Lib.hid hr
  have hnone := Lib.hid (fun w1 => none_c s hs w1)
  have hmark := Lib.hid (fun g h hgh P Q w hg hh => mark_c g h s.size hs hgh P Q w hg hh)
  have hall := Lib.hid (fun w1 => all_c h s.size w1)
  have hfull := Lib.hid (List.take_length (l := ks))
  have hhlt := hr.lt
  clear hK hk hP hr
  show Calls Try.prog 28 #[.string s, .agg (boxC 1 s0 s1 s2 s3 mn mx (.slice A ks.length c)), pv s.size h] w _
  have z0 := Lib.hid (show Boxed ((w.alloc (.cells #[.string s] 51)).alloc (.cells (boxC 1 s0 s1 s2 s3 mn mx (.slice A ks.length c)) 28)) w.heap.size 51 (.string s) from (Boxed.new w 51 _).alloc _)
  have z1 := Lib.hid (show Blk ((w.alloc (.cells #[.string s] 51)).alloc (.cells (boxC 1 s0 s1 s2 s3 mn mx (.slice A ks.length c)) 28)) (w.heap.size + 1) 28 (boxC 1 s0 s1 s2 s3 mn mx (.slice A ks.length c)) from by have h := Blk.new (w.alloc (.cells #[.string s] 51)) 28 (boxC 1 s0 s1 s2 s3 mn mx (.slice A ks.length c)); rwa [World.size_alloc] at h)
  have zB := Lib.hid (below_alloc (below_alloc (Below.refl w.heap.size w) (.cells #[.string s] 51)) (.cells (boxC 1 s0 s1 s2 s3 mn mx (.slice A ks.length c)) 28))
  have zs : ((w.alloc (.cells #[.string s] 51)).alloc (.cells (boxC 1 s0 s1 s2 s3 mn mx (.slice A ks.length c)) 28)).heap.size = w.heap.size + 2 := by simp
  have zc : ((w.alloc (.cells #[.string s] 51)).alloc (.cells (boxC 1 s0 s1 s2 s3 mn mx (.slice A ks.length c)) 28)).cell? ⟨w.heap.size, 0, none⟩ = some (.string s) := z0.out.cell
  go_enter Try.func28, Try.ntmps28
  go_upto_region 1 with (fail)
  generalize (w.alloc (.cells #[.string s] 51)).alloc (.cells (boxC 1 s0 s1 s2 s3 mn mx (.slice A ks.length c)) 28) = W0 at *
  go_upto_region 2 with (go_at_call 33; refine (hnone.out _).mono ?_; rintro e w2 ⟨rfl, hb2, hB2⟩; have hE2 := Lib.hid hb2; have hB2H := Lib.hid hB2; clear hb2 hB2)
  replace hE2 : Hid (Blk w2 (w.heap.size + 2) 4 (arB s.size (fun _ => false))) := Lib.hid (by have := hE2.out; rwa [zs] at this)
  have hB2' := hB2H.out
  rw [zs] at hB2'
  have y0 := Lib.hid (show Boxed (w2.alloc (.cells #[pv s.size (w.heap.size + 2)] 56)) w.heap.size 51 (.string s) from Boxed.alloc ((hB2'.block _ (by omega)).trans z0.out) _)
  have y1 := Lib.hid (show Blk (w2.alloc (.cells #[pv s.size (w.heap.size + 2)] 56)) (w.heap.size + 1) 28 (boxC 1 s0 s1 s2 s3 mn mx (.slice A ks.length c)) from Blk.alloc ((hB2'.block _ (by omega)).trans z1.out) _)
  have y2 := Lib.hid (hE2.out.alloc (.cells #[pv s.size (w.heap.size + 2)] 56))
  have y3 := Lib.hid (Boxed.new w2 56 (pv s.size (w.heap.size + 2)))
  have hBw := below_then zB.out zB.out.size hB2H.out
  have yB := Lib.hid (below_alloc hBw (.cells #[pv s.size (w.heap.size + 2)] 56))
  have yh := Lib.hid ((hrH.out.below hBw hhlt).alloc (.cells #[pv s.size (w.heap.size + 2)] 56))
  have hb7 : w.heap.size + 2 < w2.heap.size := hE2.out.lt
  have ysz : w2.heap.size < (w2.alloc (.cells #[pv s.size (w.heap.size + 2)] 56)).heap.size := y3.out.lt
  have yc : (w2.alloc (.cells #[pv s.size (w.heap.size + 2)] 56)).cell? ⟨w.heap.size + 1, 0, none⟩ = some (.int .i64 1) := y1.out.cell 0
  clear z0 z1 zB zc hE2 hB2H hB2' hBw hrH zs
  generalize w2.alloc (.cells #[pv s.size (w.heap.size + 2)] 56) = W at *
  generalize w2.heap.size = b7 at *
  have yle : w.heap.size ≤ W.heap.size := by omega
  have yne : w.heap.size + 2 ≠ h := by omega
  have yle2 : w.heap.size ≤ w.heap.size + 2 := by omega
  have yo := y3.out.cell
  go_wp2_with (go_at_call 35; refine (hmark.out (w.heap.size + 2) h yne _ _ _ y2.out yh.out).mono ?_; rintro e w3 ⟨rfl, hE3, hg3⟩; have x2 := Lib.hid (hE3.eqB (Q := stpC s (ks.take 0) P) (fun i _ => by simp [orP, stpC])); have x0 := Lib.hid (show Boxed w3 w.heap.size 51 (.string s) from (hg3.block _ y0.out.lt (fun e => by injection e with e; omega)).trans y0.out); have x1 := Lib.hid (show Blk w3 (w.heap.size + 1) 28 (boxC 1 s0 s1 s2 s3 mn mx (.slice A ks.length c)) from (hg3.block _ y1.out.lt (fun e => by injection e with e; omega)).trans y1.out); have x3 := Lib.hid (show Boxed w3 b7 56 (pv s.size (w.heap.size + 2)) from (hg3.block _ y3.out.lt (fun e => by injection e with e; omega)).trans y3.out); have xB := Lib.hid (below_grown2 yB.out yle hg3 yle2); have xh := Lib.hid (show Blk w3 h 4 (arB s.size P) from (hg3.block _ yh.out.lt (fun e => by injection e with e; omega)).trans yh.out); have hc7 : w3.cell? ⟨w.heap.size + 1, 7, none⟩ = some (.slice A ks.length c) := Blk.cell x1.out 7; clear hE3 hg3)
  clear hc7 y0 y1 y2 y3 yB yh yc yo
  go_loopw [56] (fun jj wr => ∃ j gc : Nat, j ≤ ks.length ∧ w.heap.size ≤ gc ∧ jj = .int .i64 j ∧ Hid (Blk wr gc 4 (arB s.size (stpC s (ks.take j) P))) ∧ Hid (Below w.heap.size w wr) ∧ Hid (Blk wr (w.heap.size + 1) 28 (boxC 1 s0 s1 s2 s3 mn mx (.slice A ks.length c))) ∧ Hid (Boxed wr w.heap.size 51 (.string s)) ∧ Hid (Boxed wr b7 56 (pv s.size gc))) (fun jj _ => ks.length - (intOf jj).toNat)
  case atStart => exact ⟨0, w.heap.size + 2, by omega, by omega, rfl, x2, xB, x1, x0, x3⟩
  case round =>
    clear x0 x1 x2 x3 xB xh
    obtain ⟨j, gc, hj, hgc, rfl, hR, hB, hX, hT, hO⟩ := hrel
    obtain ⟨wp, rfl⟩ : ∃ wp : World, wp = wr := ⟨_, rfl⟩
    by_cases hlj : j < ks.length
    · skip
      have hd2 : decide ((j : Int) < (ks.length : Int)) = true := decide_eq_true (by omega)
      have hj0 : (0 : Int) ≤ (j : Int) := by omega
      have hj1 : (j : Int) < (ks.length : Int) := by omega
      obtain ⟨ad, A', c', hA, hN, q0, q1, q2, q3, q4, q5, q6, q7⟩ := kid_at hKH.out j hlj
      subst hA
      have hNp := Lib.hid (hN.below hB.out)
      replace q0 := pw_cell_below hB.out q0
      replace q1 := pw_cell_below hB.out q1
      replace q2 := pw_cell_below hB.out q2
      replace q3 := pw_cell_below hB.out q3
      replace q4 := pw_cell_below hB.out q4
      replace q5 := pw_cell_below hB.out q5
      replace q6 := pw_cell_below hB.out q6
      replace q7 := pw_cell_below hB.out q7
      have hstp := Lib.hid (hkH.out ks[j] (List.getElem_mem hlj))
      have htk := Lib.hid (show ks.take (j + 1) = ks.take j ++ [ks[j]] from List.take_succ_eq_append_getElem hlj)
      clear hN
      generalize ks[j] = k at *
      obtain ⟨m, hm⟩ : ∃ m, m = k.kids.length := ⟨_, rfl⟩
      rw [← hm] at hNp q7
      clear hm
      have hcs := Lib.hid (show stpC s (ks.take (j + 1)) P = stp s k (stpC s (ks.take j) P) by rw [htk.out, stpC_snoc])
      go_upto_region 16 with (fail)
      have hK5 := Blk.new wp 28 (boxC k.op k.s0 k.s1 k.s2 k.s3 k.mn k.mx (.slice A' m c'))
      have hB5 := Lib.hid (below_alloc hB.out (.cells (boxC k.op k.s0 k.s1 k.s2 k.s3 k.mn k.mx (.slice A' m c')) 28))
      have hX5 := Lib.hid (hX.out.alloc (.cells (boxC k.op k.s0 k.s1 k.s2 k.s3 k.mn k.mx (.slice A' m c')) 28))
      have hT5 := Lib.hid (hT.out.alloc (.cells (boxC k.op k.s0 k.s1 k.s2 k.s3 k.mn k.mx (.slice A' m c')) 28))
      have hO5 := Lib.hid (hO.out.alloc (.cells (boxC k.op k.s0 k.s1 k.s2 k.s3 k.mn k.mx (.slice A' m c')) 28))
      have hR5 := Lib.hid (hR.out.alloc (.cells (boxC k.op k.s0 k.s1 k.s2 k.s3 k.mn k.mx (.slice A' m c')) 28))
      have hN5 := Lib.hid (hNp.out.below (below_alloc (Below.refl _ _) (.cells (boxC k.op k.s0 k.s1 k.s2 k.s3 k.mn k.mx (.slice A' m c')) 28)))
      have hbg : b7 < wp.heap.size := hO.out.lt
      generalize wp.alloc (.cells (boxC k.op k.s0 k.s1 k.s2 k.s3 k.mn k.mx (.slice A' m c')) 28) = W5 at *
      generalize wp.heap.size = b5 at *
      have d0 := hK5.cell 0
      have d1 := hK5.cell 1
      have d2 := hK5.cell 2
      have d3 := hK5.cell 3
      have d4 := hK5.cell 4
      have d5 := hK5.cell 5
      have d6 := hK5.cell 6
      have d7 := hK5.cell 7
      simp only [List.getElem?_toArray, List.getElem?_cons_zero, List.getElem?_cons_succ] at d0 d1 d2 d3 d4 d5 d6 d7
      have dt := hT5.out.cell
      have do_ := hO5.out.cell
      clear q0 q1 q2 q3 q4 q5 q6 q7 hNp hR hX hK5
      go_wp2_with (go_at_call 28; refine (hstp.out _ _ gc _ hN5.out (stpC_bd s hPH.out _) hR5.out).mono ?_; rintro e w6 ⟨g6, rfl, hg6, hR6, hB6⟩; have hR6H := Lib.hid hR6; have hB6H := Lib.hid (below_then hB5.out hB5.out.size hB6); have hX6 := Lib.hid (hX5.out.below hB6 hX5.out.lt); have hT6 := Lib.hid (show Boxed w6 w.heap.size 51 (.string s) from (hB6.block _ hT5.out.lt).trans hT5.out); have hO6 := Lib.hid (show Boxed w6 b7 56 (pv s.size gc) from (hB6.block _ hO5.out.lt).trans hO5.out); have hfo := hO6.out.frozen; have hco := hO6.out.cell; have hgl := hO5.out.lt; have hgt := hX5.out.lt; clear hR6 hB6)
      have hR7 := Lib.hid (Blk.far (p := ⟨b7, 0, none⟩) hR6H.out (by simp only; omega) (pv s.size g6))
      have hB7 := Lib.hid (hB6H.out.setCell (p := ⟨b7, 0, none⟩) (by simp only; omega) (pv s.size g6))
      have hX7 := Lib.hid (Blk.far (p := ⟨b7, 0, none⟩) hX6.out (by simp only; omega) (pv s.size g6))
      have hT7 := Lib.hid (show Boxed (w6.setCell ⟨b7, 0, none⟩ (pv s.size g6)) w.heap.size 51 (.string s) from Blk.far (p := ⟨b7, 0, none⟩) hT6.out (by simp only; omega) (pv s.size g6))
      have hO7 := Lib.hid (hO6.out.set (pv s.size g6))
      go_roundw
      case rel => exact ⟨j + 1, g6, by omega, by omega, by go_num, by rw [hcs.out]; exact hR7, hB7, hX7, hT7, hO7⟩
      case measure => simp [intOf]; omega
    · have hd2 : decide ((j : Int) < (ks.length : Int)) = false := decide_eq_false (by omega)
      obtain rfl : ks.length = j := by omega
      rw [hfull.out] at hR
      have hco := hO.out.cell
      go_wp2
      go_ret
      exact ⟨gc, rfl, hgc, hR.out, hB.out⟩
set_option maxRecDepth 100000 in
set_option maxHeartbeats 4000000 in
theorem step_rep (s : ByteArray) (hs : s.size ≤ 1000000) (op s0 s1 s2 s3 mn mx : Int) (ks : List Nd) (hk : ∀ k ∈ ks, StepOk s k) (hop : op = 3) (hne : ks ≠ []) (hmn : 0 ≤ mn ∧ mn ≤ 1000) (hmx : mx ≤ 1000) : StepOk s (.mk op s0 s1 s2 s3 mn mx ks) := by
  intro w v h P hn hP hr
  obtain ⟨A, c, rfl, hc, hlen, hK⟩ := hn
  simp only [op_mk, s0_mk, s1_mk, s2_mk, s3_mk, mn_mk, mx_mk, kids_mk] at hc hlen hK ⊢
  have hst : stp s (.mk op s0 s1 s2 s3 mn mx ks) = stpR s mn mx ks := by unfold stp; rw [if_neg (by omega), if_neg (by omega), if_neg (by omega), if_pos hop]
  rw [hst]
  clear hst
  subst hop
  have hag : Hid (∀ (w1 : World), NKs w1 A 0 ks → Blk w1 h 4 (arB s.size P) → Calls Try.prog 36 #[.string s, .agg (boxC 3 s0 s1 s2 s3 mn mx (.slice A ks.length c)), pv s.size h] w1 fun e w' => ∃ g, e = .returned (pv s.size g) ∧ w1.heap.size ≤ g ∧ Blk w' g 4 (arB s.size (stpR s mn mx ks P)) ∧ Below w1.heap.size w1 w') := Lib.hid (by
    cases ks with
    | nil => exact absurd rfl hne
    | cons k ks => exact fun w1 hk1 hr1 => again_c s hs 3 s0 s1 s2 s3 mn mx k ks (hk k (by simp)) hmn hmx w1 _ h P ⟨A, c, rfl, hc, hlen, hk1⟩ hP hr1)
  have hKH := Lib.hid hK
  have hkH := Lib.hid hk
  have hPH := Lib.hid hP
  have hrH := Lib.hid hr
  have hnone := Lib.hid (fun w1 => none_c s hs w1)
  have hmark := Lib.hid (fun g h hgh P Q w hg hh => mark_c g h s.size hs hgh P Q w hg hh)
  have hall := Lib.hid (fun w1 => all_c h s.size w1)
  have hfull := Lib.hid (List.take_length (l := ks))
  have hhlt := hr.lt
  clear hK hk hP hr
  show Calls Try.prog 28 #[.string s, .agg (boxC 3 s0 s1 s2 s3 mn mx (.slice A ks.length c)), pv s.size h] w _
  have z0 := Lib.hid (show Boxed ((w.alloc (.cells #[.string s] 51)).alloc (.cells (boxC 3 s0 s1 s2 s3 mn mx (.slice A ks.length c)) 28)) w.heap.size 51 (.string s) from (Boxed.new w 51 _).alloc _)
  have z1 := Lib.hid (show Blk ((w.alloc (.cells #[.string s] 51)).alloc (.cells (boxC 3 s0 s1 s2 s3 mn mx (.slice A ks.length c)) 28)) (w.heap.size + 1) 28 (boxC 3 s0 s1 s2 s3 mn mx (.slice A ks.length c)) from by have h := Blk.new (w.alloc (.cells #[.string s] 51)) 28 (boxC 3 s0 s1 s2 s3 mn mx (.slice A ks.length c)); rwa [World.size_alloc] at h)
  have zB := Lib.hid (below_alloc (below_alloc (Below.refl w.heap.size w) (.cells #[.string s] 51)) (.cells (boxC 3 s0 s1 s2 s3 mn mx (.slice A ks.length c)) 28))
  have zs : ((w.alloc (.cells #[.string s] 51)).alloc (.cells (boxC 3 s0 s1 s2 s3 mn mx (.slice A ks.length c)) 28)).heap.size = w.heap.size + 2 := by simp
  have zc : ((w.alloc (.cells #[.string s] 51)).alloc (.cells (boxC 3 s0 s1 s2 s3 mn mx (.slice A ks.length c)) 28)).cell? ⟨w.heap.size, 0, none⟩ = some (.string s) := z0.out.cell
  go_enter Try.func28, Try.ntmps28
  go_upto_region 1 with (fail)
  generalize (w.alloc (.cells #[.string s] 51)).alloc (.cells (boxC 3 s0 s1 s2 s3 mn mx (.slice A ks.length c)) 28) = W0 at *
  go_upto_region 2 with (go_at_call 33; refine (hnone.out _).mono ?_; rintro e w2 ⟨rfl, hb2, hB2⟩; have hE2 := Lib.hid hb2; have hB2H := Lib.hid hB2; clear hb2 hB2)
  replace hE2 : Hid (Blk w2 (w.heap.size + 2) 4 (arB s.size (fun _ => false))) := Lib.hid (by have := hE2.out; rwa [zs] at this)
  have hB2' := hB2H.out
  rw [zs] at hB2'
  have y0 := Lib.hid (show Boxed (w2.alloc (.cells #[pv s.size (w.heap.size + 2)] 56)) w.heap.size 51 (.string s) from Boxed.alloc ((hB2'.block _ (by omega)).trans z0.out) _)
  have y1 := Lib.hid (show Blk (w2.alloc (.cells #[pv s.size (w.heap.size + 2)] 56)) (w.heap.size + 1) 28 (boxC 3 s0 s1 s2 s3 mn mx (.slice A ks.length c)) from Blk.alloc ((hB2'.block _ (by omega)).trans z1.out) _)
  have y2 := Lib.hid (hE2.out.alloc (.cells #[pv s.size (w.heap.size + 2)] 56))
  have y3 := Lib.hid (Boxed.new w2 56 (pv s.size (w.heap.size + 2)))
  have hBw := below_then zB.out zB.out.size hB2H.out
  have yB := Lib.hid (below_alloc hBw (.cells #[pv s.size (w.heap.size + 2)] 56))
  have yh := Lib.hid ((hrH.out.below hBw hhlt).alloc (.cells #[pv s.size (w.heap.size + 2)] 56))
  have hb7 : w.heap.size + 2 < w2.heap.size := hE2.out.lt
  have ysz : w2.heap.size < (w2.alloc (.cells #[pv s.size (w.heap.size + 2)] 56)).heap.size := y3.out.lt
  have yc : (w2.alloc (.cells #[pv s.size (w.heap.size + 2)] 56)).cell? ⟨w.heap.size + 1, 0, none⟩ = some (.int .i64 3) := y1.out.cell 0
  clear z0 z1 zB zc hE2 hB2H hB2' hBw hrH zs
  generalize w2.alloc (.cells #[pv s.size (w.heap.size + 2)] 56) = W at *
  generalize w2.heap.size = b7 at *
  have yle : w.heap.size ≤ W.heap.size := by omega
  have yne : w.heap.size + 2 ≠ h := by omega
  have yle2 : w.heap.size ≤ w.heap.size + 2 := by omega
  have yN := Lib.hid (NKs_below yB.out A 0 ks hKH.out)
  have d0 := y0.out.cell
  have e0 := y1.out.cell 0
  have e1 := y1.out.cell 1
  have e2 := y1.out.cell 2
  have e3 := y1.out.cell 3
  have e4 := y1.out.cell 4
  have e5 := y1.out.cell 5
  have e6 := y1.out.cell 6
  have e7 := y1.out.cell 7
  simp only [List.getElem?_toArray, List.getElem?_cons_zero, List.getElem?_cons_succ] at e0 e1 e2 e3 e4 e5 e6 e7
  go_wp2_with (go_at_call 36; refine (hag.out _ yN.out yh.out).mono ?_; rintro e w3 ⟨g3, rfl, hg3, hE3, hB3⟩; have hE3H := Lib.hid hE3; have hB3H := Lib.hid (below_then yB.out yle hB3); have hg3H : w.heap.size ≤ g3 := Nat.le_trans yle hg3; clear hE3 hB3 hg3)
  go_ret
  exact ⟨g3, rfl, hg3H, hE3H.out, hB3H.out⟩
set_option maxRecDepth 100000 in
set_option maxHeartbeats 4000000 in
theorem step_alt (s : ByteArray) (hs : s.size ≤ 1000000) (op s0 s1 s2 s3 mn mx : Int) (ks : List Nd) (hk : ∀ k ∈ ks, StepOk s k) (hop : op = 2) : StepOk s (.mk op s0 s1 s2 s3 mn mx ks) := by
  intro w v h P hn hP hr
  obtain ⟨A, c, rfl, hc, hlen, hK⟩ := hn
  simp only [op_mk, s0_mk, s1_mk, s2_mk, s3_mk, mn_mk, mx_mk, kids_mk] at hc hlen hK ⊢
  have hst : stp s (.mk op s0 s1 s2 s3 mn mx ks) = stpA s ks := by unfold stp; rw [if_neg (by omega), if_neg (by omega), if_pos hop]
  rw [hst]
  clear hst
  subst hop
  have hKH := Lib.hid hK
  have hkH := Lib.hid hk
  have hPH := Lib.hid hP
  have hrH := Lib.hid hr
  have hnone := Lib.hid (fun w1 => none_c s hs w1)
  have hmark := Lib.hid (fun g h hgh P Q w hg hh => mark_c g h s.size hs hgh P Q w hg hh)
  have hall := Lib.hid (fun w1 => all_c h s.size w1)
  have hfull := Lib.hid (List.take_length (l := ks))
  have hhlt := hr.lt
  clear hK hk hP hr
  show Calls Try.prog 28 #[.string s, .agg (boxC 2 s0 s1 s2 s3 mn mx (.slice A ks.length c)), pv s.size h] w _
  have z0 := Lib.hid (show Boxed ((w.alloc (.cells #[.string s] 51)).alloc (.cells (boxC 2 s0 s1 s2 s3 mn mx (.slice A ks.length c)) 28)) w.heap.size 51 (.string s) from (Boxed.new w 51 _).alloc _)
  have z1 := Lib.hid (show Blk ((w.alloc (.cells #[.string s] 51)).alloc (.cells (boxC 2 s0 s1 s2 s3 mn mx (.slice A ks.length c)) 28)) (w.heap.size + 1) 28 (boxC 2 s0 s1 s2 s3 mn mx (.slice A ks.length c)) from by have h := Blk.new (w.alloc (.cells #[.string s] 51)) 28 (boxC 2 s0 s1 s2 s3 mn mx (.slice A ks.length c)); rwa [World.size_alloc] at h)
  have zB := Lib.hid (below_alloc (below_alloc (Below.refl w.heap.size w) (.cells #[.string s] 51)) (.cells (boxC 2 s0 s1 s2 s3 mn mx (.slice A ks.length c)) 28))
  have zs : ((w.alloc (.cells #[.string s] 51)).alloc (.cells (boxC 2 s0 s1 s2 s3 mn mx (.slice A ks.length c)) 28)).heap.size = w.heap.size + 2 := by simp
  have zc : ((w.alloc (.cells #[.string s] 51)).alloc (.cells (boxC 2 s0 s1 s2 s3 mn mx (.slice A ks.length c)) 28)).cell? ⟨w.heap.size, 0, none⟩ = some (.string s) := z0.out.cell
  go_enter Try.func28, Try.ntmps28
  go_upto_region 1 with (fail)
  generalize (w.alloc (.cells #[.string s] 51)).alloc (.cells (boxC 2 s0 s1 s2 s3 mn mx (.slice A ks.length c)) 28) = W0 at *
  go_upto_region 2 with (go_at_call 33; refine (hnone.out _).mono ?_; rintro e w2 ⟨rfl, hb2, hB2⟩; have hE2 := Lib.hid hb2; have hB2H := Lib.hid hB2; clear hb2 hB2)
  replace hE2 : Hid (Blk w2 (w.heap.size + 2) 4 (arB s.size (fun _ => false))) := Lib.hid (by have := hE2.out; rwa [zs] at this)
  have hB2' := hB2H.out
  rw [zs] at hB2'
  have y0 := Lib.hid (show Boxed (w2.alloc (.cells #[pv s.size (w.heap.size + 2)] 56)) w.heap.size 51 (.string s) from Boxed.alloc ((hB2'.block _ (by omega)).trans z0.out) _)
  have y1 := Lib.hid (show Blk (w2.alloc (.cells #[pv s.size (w.heap.size + 2)] 56)) (w.heap.size + 1) 28 (boxC 2 s0 s1 s2 s3 mn mx (.slice A ks.length c)) from Blk.alloc ((hB2'.block _ (by omega)).trans z1.out) _)
  have y2 := Lib.hid (hE2.out.alloc (.cells #[pv s.size (w.heap.size + 2)] 56))
  have y3 := Lib.hid (Boxed.new w2 56 (pv s.size (w.heap.size + 2)))
  have hBw := below_then zB.out zB.out.size hB2H.out
  have yB := Lib.hid (below_alloc hBw (.cells #[pv s.size (w.heap.size + 2)] 56))
  have yh := Lib.hid ((hrH.out.below hBw hhlt).alloc (.cells #[pv s.size (w.heap.size + 2)] 56))
  have hb7 : w.heap.size + 2 < w2.heap.size := hE2.out.lt
  have ysz : w2.heap.size < (w2.alloc (.cells #[pv s.size (w.heap.size + 2)] 56)).heap.size := y3.out.lt
  have yc : (w2.alloc (.cells #[pv s.size (w.heap.size + 2)] 56)).cell? ⟨w.heap.size + 1, 0, none⟩ = some (.int .i64 2) := y1.out.cell 0
  clear z0 z1 zB zc hE2 hB2H hB2' hBw hrH zs
  generalize w2.alloc (.cells #[pv s.size (w.heap.size + 2)] 56) = W at *
  generalize w2.heap.size = b7 at *
  have yle : w.heap.size ≤ W.heap.size := by omega
  have yne : w.heap.size + 2 ≠ h := by omega
  have yle2 : w.heap.size ≤ w.heap.size + 2 := by omega
  have y2a := Lib.hid (y2.out.eqB (Q := stpA s (ks.take 0) P) (fun i _ => by simp [stpA]))
  have hc7 : W.cell? ⟨w.heap.size + 1, 7, none⟩ = some (.slice A ks.length c) := Blk.cell y1.out 7
  go_wp2
  clear hc7 yc y2
  go_loopw [70] (fun jj wr => ∃ j : Nat, j ≤ ks.length ∧ jj = .int .i64 j ∧ Hid (Blk wr (w.heap.size + 2) 4 (arB s.size (stpA s (ks.take j) P))) ∧ Hid (Below w.heap.size w wr) ∧ Hid (Blk wr (w.heap.size + 1) 28 (boxC 2 s0 s1 s2 s3 mn mx (.slice A ks.length c))) ∧ Hid (Boxed wr w.heap.size 51 (.string s)) ∧ Hid (Boxed wr b7 56 (pv s.size (w.heap.size + 2))) ∧ Hid (Blk wr h 4 (arB s.size P))) (fun jj _ => ks.length - (intOf jj).toNat)
  case atStart => exact ⟨0, by omega, rfl, y2a, yB, y1, y0, y3, yh⟩
  case round =>
    clear y0 y1 y2a y3 yB yh
    obtain ⟨j, hj, rfl, hR, hB, hX, hT, hO, hH⟩ := hrel
    obtain ⟨wp, rfl⟩ : ∃ wp : World, wp = wr := ⟨_, rfl⟩
    by_cases hlj : j < ks.length
    · skip
      have hd2 : decide ((j : Int) < (ks.length : Int)) = true := decide_eq_true (by omega)
      have hj0 : (0 : Int) ≤ (j : Int) := by omega
      have hj1 : (j : Int) < (ks.length : Int) := by omega
      obtain ⟨ad, A', c', hA, hN, q0, q1, q2, q3, q4, q5, q6, q7⟩ := kid_at hKH.out j hlj
      subst hA
      have hNp := Lib.hid (hN.below hB.out)
      replace q0 := pw_cell_below hB.out q0
      replace q1 := pw_cell_below hB.out q1
      replace q2 := pw_cell_below hB.out q2
      replace q3 := pw_cell_below hB.out q3
      replace q4 := pw_cell_below hB.out q4
      replace q5 := pw_cell_below hB.out q5
      replace q6 := pw_cell_below hB.out q6
      replace q7 := pw_cell_below hB.out q7
      have hstp := Lib.hid (hkH.out ks[j] (List.getElem_mem hlj))
      have htk := Lib.hid (show ks.take (j + 1) = ks.take j ++ [ks[j]] from List.take_succ_eq_append_getElem hlj)
      clear hN
      generalize ks[j] = k at *
      obtain ⟨m, hm⟩ : ∃ m, m = k.kids.length := ⟨_, rfl⟩
      rw [← hm] at hNp q7
      clear hm
      have hcs := Lib.hid (fun i => show orP (stpA s (ks.take j) P) (stp s k P) i = stpA s (ks.take (j + 1)) P i by rw [htk.out, stpA_snoc])
      go_upto_region 22 with (fail)
      have hK5 := Lib.hid (Blk.new wp 28 (boxC k.op k.s0 k.s1 k.s2 k.s3 k.mn k.mx (.slice A' m c')))
      have hB5 := Lib.hid (below_alloc hB.out (.cells (boxC k.op k.s0 k.s1 k.s2 k.s3 k.mn k.mx (.slice A' m c')) 28))
      have hX5 := Lib.hid (hX.out.alloc (.cells (boxC k.op k.s0 k.s1 k.s2 k.s3 k.mn k.mx (.slice A' m c')) 28))
      have hT5 := Lib.hid (hT.out.alloc (.cells (boxC k.op k.s0 k.s1 k.s2 k.s3 k.mn k.mx (.slice A' m c')) 28))
      have hO5 := Lib.hid (hO.out.alloc (.cells (boxC k.op k.s0 k.s1 k.s2 k.s3 k.mn k.mx (.slice A' m c')) 28))
      have hR5 := Lib.hid (hR.out.alloc (.cells (boxC k.op k.s0 k.s1 k.s2 k.s3 k.mn k.mx (.slice A' m c')) 28))
      have hH5 := Lib.hid (hH.out.alloc (.cells (boxC k.op k.s0 k.s1 k.s2 k.s3 k.mn k.mx (.slice A' m c')) 28))
      have hN5 := Lib.hid (hNp.out.below (below_alloc (Below.refl _ _) (.cells (boxC k.op k.s0 k.s1 k.s2 k.s3 k.mn k.mx (.slice A' m c')) 28)))
      have hbg : b7 < wp.heap.size := hO.out.lt
      generalize wp.alloc (.cells (boxC k.op k.s0 k.s1 k.s2 k.s3 k.mn k.mx (.slice A' m c')) 28) = W5 at *
      generalize wp.heap.size = b5 at *
      clear q0 q1 q2 q3 q4 q5 q6 q7 hNp hR hX hT hO hH hB
      refine start_ (n := 6) (S := (fun w' => cells8 w' b5 k.op k.s0 k.s1 k.s2 k.s3 k.mn k.mx (.slice A' m c') ∧ w'.cell? ⟨w.heap.size, 0, none⟩ = some (.string s) ∧ w'.cell? ⟨b7, 0, none⟩ = some (pv s.size (w.heap.size + 2)))) (ds := []) #[false, false, false, false, false, false] (by kernel_rfl) rfl rfl ?_ (fun hHeld => ?_)
      · exact ⟨cells8_of hK5.out, hT5.out.cell, hO5.out.cell⟩
      have hB6 := Lib.hid (below_drew1 hB5.out)
      have hX6 : Hid (Blk W5.drew (w.heap.size + 1) 28 (boxC 2 s0 s1 s2 s3 mn mx (.slice (some ad) ks.length c))) := hX5
      have hT6 : Hid (Boxed W5.drew w.heap.size 51 (.string s)) := hT5
      have hO6 : Hid (Boxed W5.drew b7 56 (pv s.size (w.heap.size + 2))) := hO5
      have hR6 : Hid (Blk W5.drew (w.heap.size + 2) 4 (arB s.size (stpA s (ks.take j) P))) := hR5
      have hH6 : Hid (Blk W5.drew h 4 (arB s.size P)) := hH5
      have hK6 : Hid (Blk W5.drew b5 28 (boxC k.op k.s0 k.s1 k.s2 k.s3 k.mn k.mx (.slice A' m c'))) := hK5
      have hN6 := Lib.hid (hN5.out.below (below_drew1 (Below.refl _ _)))
      clear hB5 hX5 hR5 hK5 hN5 hT5 hO5 hH5
      generalize W5.drew = W6 at *
      refine take_ (i := 0) (N := (some 74)) (v := ?_) (a' := ?_) #[true, false, false, false, false, false] rfl rfl (by kernel_rfl) (fun _ _ _ h => h) (Or.inl ⟨by rfl, ?_⟩) hHeld ?_ ?_
      rotate_left
      · intro w' ⟨⟨e0, e1, e2, e3, e4, e5, e6, e7⟩, f0, f1⟩
        go_simp
        with_reducible rfl
      rotate_left
      · simp only [Act.put, List.setIfInBounds_toArray, List.set_cons_zero, List.set_cons_succ, i64_w, i32_w]
        rfl
      refine take_ (i := 1) (N := (some 75)) (v := ?_) (a' := ?_) #[true, true, false, false, false, false] rfl rfl (by kernel_rfl) (fun _ _ _ h => h) (Or.inl ⟨by rfl, ?_⟩) hHeld ?_ ?_
      rotate_left
      · intro w' ⟨⟨e0, e1, e2, e3, e4, e5, e6, e7⟩, f0, f1⟩
        go_simp
        with_reducible rfl
      rotate_left
      · simp only [Act.put, List.setIfInBounds_toArray, List.set_cons_zero, List.set_cons_succ, i64_w, i32_w]
        rfl
      refine take_ (i := 2) (N := (some 76)) (v := ?_) (a' := ?_) #[true, true, true, false, false, false] rfl rfl (by kernel_rfl) (fun _ _ _ h => h) (Or.inl ⟨by rfl, ?_⟩) hHeld ?_ ?_
      rotate_left
      · intro w' ⟨⟨e0, e1, e2, e3, e4, e5, e6, e7⟩, f0, f1⟩
        go_simp
        with_reducible rfl
      rotate_left
      · simp only [Act.put, List.setIfInBounds_toArray, List.set_cons_zero, List.set_cons_succ, i64_w, i32_w]
        rfl
      refine pure_ (i := 3) (N := (some 77)) (v := ?_) (a' := ?_) #[true, true, true, true, false, false] rfl rfl (by kernel_rfl) (fun _ _ _ h => h) (Or.inl ⟨by rfl, ?_⟩) ?_ ?_
      rotate_left
      · intro w'
        go_simp
        with_reducible rfl
      rotate_left
      · simp only [Act.put, List.setIfInBounds_toArray, List.set_cons_zero, List.set_cons_succ, i64_w, i32_w]
        rfl
      refine one_ (i := 4) (N := (some 78)) #[true, true, true, true, true, false] rfl rfl (by kernel_rfl) (by decide) (fun K hK => ?_)
      refine goes_ Try.func28 (by kernel_rfl) rfl #[.string s, ndVal k (.slice A' m c'), pv s.size h] (by rfl) rfl rfl (by simp only [List.map_toArray, List.map_cons, List.map_nil]; rfl) ?_
      refine (hstp.out _ _ _ _ hN6.out hPH.out hH6.out).mono ?_
      rintro e W8 ⟨gx, rfl, hgx, hO8, hB8⟩
      refine ⟨_, rfl, ?_⟩
      have hB8H := Lib.hid (below_then hB6.out hB6.out.size hB8)
      have hX8 := Lib.hid (hX6.out.below hB8 hX6.out.lt)
      have hT8 := Lib.hid (show Boxed W8 w.heap.size 51 (.string s) from (hB8.block _ hT6.out.lt).trans hT6.out)
      have hO8b := Lib.hid (show Boxed W8 b7 56 (pv s.size (w.heap.size + 2)) from (hB8.block _ hO6.out.lt).trans hO6.out)
      have hR8 := Lib.hid (hR6.out.below hB8 hR6.out.lt)
      have hH8 := Lib.hid (hH6.out.below hB8 hH6.out.lt)
      have hK8 := Lib.hid (hK6.out.below hB8 hK6.out.lt)
      have hO8H : Hid (Blk W8 gx 4 (arB s.size (stp s k P))) := hO8
      have hgxg : w.heap.size + 2 < gx := Nat.lt_of_lt_of_le hR6.out.lt hgx
      refine hK.out _ _ ⟨cells8_of hK8.out, hT8.out.cell, hO8b.out.cell⟩ (fun hHeld => ?_)
      clear hK K hB8 hO8 hgx
      refine norm_ (a' := ?_) ?_ ?_
      rotate_left
      · show Act.put _ (some 78) _ = _
        simp only [Act.put, List.setIfInBounds_toArray, List.set_cons_zero, List.set_cons_succ, i64_w, i32_w]
        rfl
      refine one_ (i := 5) (N := (some 79)) #[true, true, true, true, true, true] rfl rfl (by kernel_rfl) (by decide) (fun K hK => ?_)
      refine goes_ Try.func35 (by kernel_rfl) rfl #[pv s.size (w.heap.size + 2), pv s.size gx] (by rfl) rfl rfl (by simp only [List.map_toArray, List.map_cons, List.map_nil]; rfl) ?_
      refine (hmark.out (w.heap.size + 2) gx (by omega) _ _ _ hR8.out hO8H.out).mono ?_
      rintro e W9 ⟨rfl, hE9, hg9⟩
      refine ⟨_, rfl, ?_⟩
      have hne1 : w.heap.size ≠ w.heap.size + 2 := by omega
      have hB9 := Lib.hid (below_grown2 hB8H.out hB8H.out.size hg9 (by omega))
      have hX9 := Lib.hid (show Blk W9 (w.heap.size + 1) 28 (boxC 2 s0 s1 s2 s3 mn mx (.slice (some ad) ks.length c)) from (hg9.block _ hX8.out.lt (fun e => by injection e with e; omega)).trans hX8.out)
      have hT9 := Lib.hid (show Boxed W9 w.heap.size 51 (.string s) from (hg9.block _ hT8.out.lt (fun e => by injection e with e; omega)).trans hT8.out)
      have hO9 := Lib.hid (show Boxed W9 b7 56 (pv s.size (w.heap.size + 2)) from (hg9.block _ hO8b.out.lt (fun e => by injection e with e; omega)).trans hO8b.out)
      have hH9 := Lib.hid (show Blk W9 h 4 (arB s.size P) from (hg9.block _ hH8.out.lt (fun e => by injection e with e; omega)).trans hH8.out)
      have hK9 := Lib.hid (show Blk W9 b5 28 (boxC k.op k.s0 k.s1 k.s2 k.s3 k.mn k.mx (.slice A' m c')) from (hg9.block _ hK8.out.lt (fun e => by injection e with e; omega)).trans hK8.out)
      have hR9 := Lib.hid (hE9.eqB (fun i _ => hcs.out i))
      refine hK.out _ _ ⟨cells8_of hK9.out, hT9.out.cell, hO9.out.cell⟩ (fun hHeld => ?_)
      clear hK K hE9 hg9
      refine norm_ (a' := ?_) ?_ ?_
      rotate_left
      · show Act.put _ (some 79) _ = _
        simp only [Act.put, List.setIfInBounds_toArray, List.set_cons_zero, List.set_cons_succ, i64_w, i32_w]
        rfl
      refine done_ (by kernel_rfl) ?_
      go_wp2
      go_roundw
      case rel => exact ⟨j + 1, by omega, by go_num, hR9, hB9, hX9, hT9, hO9, hH9⟩
      case measure => simp [intOf]; omega
    · have hd2 : decide ((j : Int) < (ks.length : Int)) = false := decide_eq_false (by omega)
      obtain rfl : ks.length = j := by omega
      rw [hfull.out] at hR
      have hco := hO.out.cell
      go_wp2
      go_ret
      exact ⟨w.heap.size + 2, rfl, by omega, hR.out, hB.out⟩
end Go.Proofs.Ytimhiacjoplkeaa
