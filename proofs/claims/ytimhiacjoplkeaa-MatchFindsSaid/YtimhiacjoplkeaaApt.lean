/- apart: its walk. Own text. -/
import Derived.Test.YtimhiacjoplkeaaAgn
namespace Go.Proofs.Ytimhiacjoplkeaa
open Go.RowKit Go.Proofs.Ytimhiacjoplkeaa.P Go.Proofs.YtimhiacjoplkeaaW.PrintWords Go.Proofs.YtimhiacjoplkeaaW.PrintLast
set_option linter.unusedVariables false
set_option linter.unusedSimpArgs false
theorem i64_w (n : Int) : IntKind.i64.wrap n = Go.RowKit.wrap64 n := by unfold Go.RowKit.wrap64; exact IntKind.wrap_i64 n
theorem i32_w (n : Int) : IntKind.i32.wrap n = Go.RowKit.wrap32 n := by unfold Go.RowKit.wrap32; exact IntKind.wrap_i32 n
theorem stpX_snoc (s : ByteArray) (neg : Bool) (k : Nd) (i j : Nat) : ∀ ks : List Nd, stpX s neg (ks ++ [k]) i j = (stpX s neg ks i j && (stp s k (dlt i) j != neg))
  | [] => by simp [stpX]
  | k' :: ks => by
    rw [List.cons_append]
    unfold stpX
    rw [stpX_snoc s neg k i j ks, Bool.and_assoc]
def cells8 (w : World) (b : Nat) (op s0 s1 s2 s3 mn mx : Int) (v : Value) : Prop := w.cell? ⟨b, 0, none⟩ = some (.int .i64 op) ∧ w.cell? ⟨b, 1, none⟩ = some (.int .u64 s0) ∧ w.cell? ⟨b, 2, none⟩ = some (.int .u64 s1) ∧ w.cell? ⟨b, 3, none⟩ = some (.int .u64 s2) ∧ w.cell? ⟨b, 4, none⟩ = some (.int .u64 s3) ∧ w.cell? ⟨b, 5, none⟩ = some (.int .i64 mn) ∧ w.cell? ⟨b, 6, none⟩ = some (.int .i64 mx) ∧ w.cell? ⟨b, 7, none⟩ = some v
theorem cells8_of {w : World} {b : Nat} {op s0 s1 s2 s3 mn mx : Int} {v : Value} (h : Blk w b 28 (boxC op s0 s1 s2 s3 mn mx v)) : cells8 w b op s0 s1 s2 s3 mn mx v := ⟨h.cell 0, h.cell 1, h.cell 2, h.cell 3, h.cell 4, h.cell 5, h.cell 6, h.cell 7⟩
/-- What is left behind so many kids. -/
def apP (s : ByteArray) (neg : Bool) (ks : List Nd) (at_ : Nat) : Nat → Bool := fun j => decide (at_ ≤ j) && stpX s neg ks at_ j
set_option maxRecDepth 20000 in
set_option maxHeartbeats 4000000 in
theorem apart_c (s : ByteArray) (hs : s.size ≤ 1000000) (op s0 s1 s2 s3 mn mx : Int) (ks : List Nd) (hk : ∀ k ∈ ks, StepOk s k) (w : World) (v : Value) (at_ : Nat) (hat : at_ ≤ s.size)
    (hn : IsN w (.mk op s0 s1 s2 s3 mn mx ks) v) :
    Calls Try.prog 37 #[.string s, v, .int .i64 (at_ : Int)] w fun e w' => ∃ g, e = .returned (pv s.size g) ∧ w.heap.size ≤ g ∧ Blk w' g 4 (arB s.size (apP s (decide (op = 5)) ks at_)) ∧ Below w.heap.size w w' := by
  obtain ⟨A, c, rfl, hc, hlen, hK⟩ := hn
  simp only [op_mk, s0_mk, s1_mk, s2_mk, s3_mk, mn_mk, mx_mk, kids_mk] at hc hlen hK ⊢
  have hKH := Lib.hid hK
  have hkH := Lib.hid hk
  have hnone := Lib.hid (fun w1 => none_c s hs w1)
  have hone := Lib.hid (fun w1 => one_c s hs at_ hat w1)
  have hbdd : ∀ i, (fun i => i == at_) i = true → i ≤ s.size := fun i h => by rw [beq_iff_eq.1 h]; exact hat
  have hbddH := Lib.hid hbdd
  have hfull := Lib.hid (List.take_length (l := ks))
  clear hK hk hbdd
  show Calls Try.prog 37 #[.string s, .agg (boxC op s0 s1 s2 s3 mn mx (.slice A ks.length c)), .int .i64 (at_ : Int)] w _
  go_enter Try.func37, Try.ntmps37
  go_upto_region 2 with (go_at_call 33; refine (hnone.out _).mono ?_; rintro e w2 ⟨rfl, hb2, hB2⟩; have hE2 := Lib.hid hb2; have hB2H := Lib.hid hB2; clear hb2 hB2)
  have hX2 := Lib.hid (show Blk w2 w.heap.size 28 (boxC op s0 s1 s2 s3 mn mx (.slice A ks.length c)) from (hB2H.out.block _ (by simp)).trans (Blk.new w 28 _))
  have hB3 := Lib.hid (below_then (below_alloc (Below.refl w.heap.size w) (.cells (boxC op s0 s1 s2 s3 mn mx (.slice A ks.length c)) 28)) (by simp) hB2H.out)
  replace hE2 : Hid (Blk w2 (w.heap.size + 1) 4 (arB s.size (fun _ => false))) := Lib.hid (by have := hE2.out; rwa [World.size_alloc] at this)
  have hgw : w.heap.size < w.heap.size + 1 := by omega
  generalize w.heap.size + 1 = g at *
  clear hB2H hnone
  go_wp2
  go_loopw [8] (fun ii wr => ∃ i : Nat, at_ ≤ i ∧ i ≤ s.size + 1 ∧ ii = .int .i64 i ∧ Hid (Blk wr g 4 (arB s.size (fun j => decide (at_ ≤ j) && decide (j < i)))) ∧ Hid (Below w.heap.size w wr) ∧ Hid (Blk wr w.heap.size 28 (boxC op s0 s1 s2 s3 mn mx (.slice A ks.length c)))) (fun ii _ => s.size + 1 - (intOf ii).toNat)
  case atStart => exact ⟨at_, by omega, by omega, rfl, Lib.hid (hE2.out.eqB (fun j _ => by by_cases h : at_ ≤ j <;> simp [h])), hB3, hX2⟩
  case round =>
    clear hE2 hB3 hX2
    obtain ⟨i, hi1, hi2, rfl, hR, hB, hX⟩ := hrel
    obtain ⟨wo, rfl⟩ : ∃ wo : World, wo = wr := ⟨_, rfl⟩
    by_cases hlt : i < s.size + 1
    · have hd : decide ((i : Int) < ((s.size + 1 : Nat) : Int)) = true := decide_eq_true (by omega)
      have hd0 : (0 : Int) ≤ (i : Int) := by omega
      have hd1 : (i : Int) < ((s.size + 1 : Nat) : Int) := by omega
      have hcg := hR.out.cellB i (by omega)
      have hfg := hR.out.frozen i
      have hset := Lib.hid ((hR.out.setB i true (by omega)).eqB (Q := fun j => decide (at_ ≤ j) && decide (j < i + 1)) (fun j _ => by
        simp only [upd]
        by_cases e : j = i
        · subst e; rw [if_pos rfl]; simp; exact hi1
        · rw [if_neg e]
          by_cases h1 : j < i
          · simp [h1, show j < i + 1 by omega]
          · simp [h1, show ¬ j < i + 1 by omega]))
      have hB4 := Lib.hid (hB.out.setCell (p := ⟨g, i, none⟩) (Nat.le_of_lt hgw) (.bool true))
      have hX4 := Lib.hid (Blk.far (p := ⟨g, i, none⟩) hX.out (by simp only; omega) (.bool true))
      go_wp2
      go_roundw
      case rel => exact ⟨i + 1, by omega, by omega, by go_num, hset, hB4, hX4⟩
      case measure => simp [intOf]; omega
    · have hd : decide ((i : Int) < ((s.size + 1 : Nat) : Int)) = false := decide_eq_false (by omega)
      have hE := Lib.hid (hR.out.eqB (Q := apP s (decide (op = 5)) (ks.take 0) at_) (fun j hj => by
        unfold apP; rw [List.take_zero]; unfold stpX
        simp [show j < i by omega]))
      have hc7 : wo.cell? ⟨w.heap.size, 7, none⟩ = some (.slice A ks.length c) := hX.out.cell 7
      clear hR
      go_wp2
      clear hc7
      go_loopw [28] (fun jj wr => ∃ j : Nat, j ≤ ks.length ∧ jj = .int .i64 j ∧ Hid (Blk wr g 4 (arB s.size (apP s (decide (op = 5)) (ks.take j) at_))) ∧ Hid (Below w.heap.size w wr) ∧ Hid (Blk wr w.heap.size 28 (boxC op s0 s1 s2 s3 mn mx (.slice A ks.length c)))) (fun jj _ => ks.length - (intOf jj).toNat)
      case atStart => exact ⟨0, by omega, rfl, hE, hB, hX⟩
      case round =>
        clear hE hB hX
        obtain ⟨j, hj, rfl, hR, hB, hX⟩ := hrel
        obtain ⟨wp, rfl⟩ : ∃ wp : World, wp = wr := ⟨_, rfl⟩
        by_cases hlj : j < ks.length
        · have hd2 : decide ((j : Int) < (ks.length : Int)) = true := decide_eq_true (by omega)
          have hj0 : (0 : Int) ≤ (j : Int) := by omega
          have hj1 : (j : Int) < (ks.length : Int) := by omega
          obtain ⟨ad, A', c', hA, hN, q0, q1, q2, q3, q4, q5, q6, q7⟩ := kid_at hKH.out j hlj
          subst hA
          have hNp := Lib.hid (hN.below hB.out)
          replace q0 := pw_cell_below hB.out q0
          replace q1 := pw_cell_below hB.out q1
          replace q2 := pw_cell_below hB.out q2
          replace q3 := pw_cell_below hB.out q3
          replace q4 := pw_cell_below hB.out q4
          replace q5 := pw_cell_below hB.out q5
          replace q6 := pw_cell_below hB.out q6
          replace q7 := pw_cell_below hB.out q7
          have hstp := Lib.hid (hkH.out ks[j] (List.getElem_mem hlj))
          have htk := Lib.hid (show ks.take (j + 1) = ks.take j ++ [ks[j]] from List.take_succ_eq_append_getElem hlj)
          have hap := Lib.hid (fun p => show apP s (decide (op = 5)) (ks.take (j + 1)) at_ p = (apP s (decide (op = 5)) (ks.take j) at_ p && (stp s ks[j] (dlt at_) p != decide (op = 5))) by unfold apP; rw [htk.out, stpX_snoc, Bool.and_assoc])
          clear hN htk
          generalize ks[j] = k at *
          obtain ⟨m, hm⟩ : ∃ m, m = k.kids.length := ⟨_, rfl⟩
          rw [← hm] at hNp q7
          clear hm
          go_upto_region 9 with (fail)
          have hK5 := Lib.hid (Blk.new wp 28 (boxC k.op k.s0 k.s1 k.s2 k.s3 k.mn k.mx (.slice A' m c')))
          have hB5 := Lib.hid (below_alloc hB.out (.cells (boxC k.op k.s0 k.s1 k.s2 k.s3 k.mn k.mx (.slice A' m c')) 28))
          have hX5 := Lib.hid (hX.out.alloc (.cells (boxC k.op k.s0 k.s1 k.s2 k.s3 k.mn k.mx (.slice A' m c')) 28))
          have hR5 := Lib.hid (hR.out.alloc (.cells (boxC k.op k.s0 k.s1 k.s2 k.s3 k.mn k.mx (.slice A' m c')) 28))
          have hN5 := Lib.hid (hNp.out.below (below_alloc (Below.refl _ _) (.cells (boxC k.op k.s0 k.s1 k.s2 k.s3 k.mn k.mx (.slice A' m c')) 28)))
          have hbg : w.heap.size ≤ wp.heap.size := hB.out.size
          generalize wp.alloc (.cells (boxC k.op k.s0 k.s1 k.s2 k.s3 k.mn k.mx (.slice A' m c')) 28) = W5 at *
          generalize wp.heap.size = b5 at *
          clear q0 q1 q2 q3 q4 q5 q6 q7 hNp hR hX
          refine start_ (n := 7) (S := (fun w' => cells8 w' b5 k.op k.s0 k.s1 k.s2 k.s3 k.mn k.mx (.slice A' m c'))) (ds := []) #[false, false, false, false, false, false, false] (by kernel_rfl) rfl rfl ?_ (fun hHeld => ?_)
          · exact cells8_of hK5.out
          have hB6 := Lib.hid (below_drew1 hB5.out)
          have hX6 : Hid (Blk W5.drew w.heap.size 28 (boxC op s0 s1 s2 s3 mn mx (.slice (some ad) ks.length c))) := hX5
          have hR6 : Hid (Blk W5.drew g 4 (arB s.size (apP s (decide (op = 5)) (ks.take j) at_))) := hR5
          have hK6 : Hid (Blk W5.drew b5 28 (boxC k.op k.s0 k.s1 k.s2 k.s3 k.mn k.mx (.slice A' m c'))) := hK5
          have hN6 := Lib.hid (hN5.out.below (below_drew1 (Below.refl _ _)))
          clear hB5 hX5 hR5 hK5 hN5
          generalize W5.drew = W6 at *
          refine pure_ (i := 0) (N := (some 32)) (v := ?_) (a' := ?_) #[true, false, false, false, false, false, false] rfl rfl (by kernel_rfl) (fun _ _ _ h => h) (Or.inl ⟨by rfl, ?_⟩) ?_ ?_
          rotate_left
          · intro w'
            go_simp
            with_reducible rfl
          rotate_left
          · simp only [Act.put, List.setIfInBounds_toArray, List.set_cons_zero, List.set_cons_succ, i64_w, i32_w]
            rfl
          refine pure_ (i := 2) (N := (some 34)) (v := ?_) (a' := ?_) #[true, false, true, false, false, false, false] rfl rfl (by kernel_rfl) (fun _ _ _ h => h) (Or.inl ⟨by rfl, ?_⟩) ?_ ?_
          rotate_left
          · intro w'
            go_simp
            with_reducible rfl
          rotate_left
          · simp only [Act.put, List.setIfInBounds_toArray, List.set_cons_zero, List.set_cons_succ, i64_w, i32_w]
            rfl
          refine pure_ (i := 3) (N := (some 35)) (v := ?_) (a' := ?_) #[true, false, true, true, false, false, false] rfl rfl (by kernel_rfl) (fun _ _ _ h => h) (Or.inl ⟨by rfl, ?_⟩) ?_ ?_
          rotate_left
          · intro w'
            go_simp
            with_reducible rfl
          rotate_left
          · simp only [Act.put, List.setIfInBounds_toArray, List.set_cons_zero, List.set_cons_succ, i64_w, i32_w]
            rfl
          refine take_ (i := 1) (N := (some 33)) (v := ?_) (a' := ?_) #[true, true, true, true, false, false, false] rfl rfl (by kernel_rfl) (fun _ _ _ h => h) (Or.inl ⟨by rfl, ?_⟩) hHeld ?_ ?_
          rotate_left
          · intro w' ⟨e0, e1, e2, e3, e4, e5, e6, e7⟩
            go_simp
            with_reducible rfl
          rotate_left
          · simp only [Act.put, List.setIfInBounds_toArray, List.set_cons_zero, List.set_cons_succ, i64_w, i32_w]
            rfl
          refine one_ (i := 4) (N := (some 36)) #[true, true, true, true, true, false, false] rfl rfl (by kernel_rfl) (by decide) (fun K hK => ?_)
          refine goes_ Try.func29 (by kernel_rfl) rfl #[.string s, .int .i64 (at_ : Int)] (by rfl) rfl rfl (by simp only [List.map_toArray, List.map_cons, List.map_nil]; rfl) ?_
          refine (hone.out _).mono ?_
          rintro e W7 ⟨rfl, hO7, hB7⟩
          refine ⟨_, rfl, ?_⟩
          have hB7H := Lib.hid (below_then hB6.out hB6.out.size hB7)
          have hX7 := Lib.hid (hX6.out.below hB7 hX6.out.lt)
          have hR7 := Lib.hid (hR6.out.below hB7 hR6.out.lt)
          have hK7 := Lib.hid (hK6.out.below hB7 hK6.out.lt)
          have hN7 := Lib.hid (hN6.out.below hB7)
          have hO7H := Lib.hid hO7
          refine hK.out _ _ (cells8_of hK7.out) (fun hHeld => ?_)
          clear hK K hB7 hO7
          refine norm_ (a' := ?_) ?_ ?_
          rotate_left
          · show Act.put _ (some 36) _ = _
            simp only [Act.put, List.setIfInBounds_toArray, List.set_cons_zero, List.set_cons_succ, i64_w, i32_w]
            rfl
          refine one_ (i := 5) (N := (some 37)) #[true, true, true, true, true, true, false] rfl rfl (by kernel_rfl) (by decide) (fun K hK => ?_)
          refine goes_ Try.func28 (by kernel_rfl) rfl #[.string s, ndVal k (.slice A' m c'), pv s.size W6.heap.size] (by rfl) rfl rfl (by simp only [List.map_toArray, List.map_cons, List.map_nil]; rfl) ?_
          refine (hstp.out _ _ _ _ hN7.out hbddH.out hO7H.out).mono ?_
          rintro e W8 ⟨gx, rfl, hgx, hO8, hB8⟩
          refine ⟨_, rfl, ?_⟩
          have hB8H := Lib.hid (below_then hB7H.out hB7H.out.size hB8)
          have hX8 := Lib.hid (hX7.out.below hB8 hX7.out.lt)
          have hR8 := Lib.hid (hR7.out.below hB8 hR7.out.lt)
          have hK8 := Lib.hid (hK7.out.below hB8 hK7.out.lt)
          have hO8H : Hid (Blk W8 gx 4 (arB s.size (stp s k (dlt at_)))) := hO8
          have hgxg : g < gx := Nat.lt_of_lt_of_le hR7.out.lt hgx
          have hgxw : w.heap.size < gx := by omega
          refine hK.out _ _ (cells8_of hK8.out) (fun hHeld => ?_)
          clear hK K hB8 hO8 hgx
          refine norm_ (a' := ?_) ?_ ?_
          rotate_left
          · show Act.put _ (some 37) _ = _
            simp only [Act.put, List.setIfInBounds_toArray, List.set_cons_zero, List.set_cons_succ, i64_w, i32_w]
            rfl
          refine pure_ (i := 6) (N := (some 11)) (v := ?_) (a' := ?_) #[true, true, true, true, true, true, true] rfl rfl (by kernel_rfl) (fun _ _ _ h => h) (Or.inl ⟨by rfl, ?_⟩) ?_ ?_
          rotate_left
          · intro w'
            go_simp
            with_reducible rfl
          rotate_left
          · simp only [Act.put, List.setIfInBounds_toArray, List.set_cons_zero, List.set_cons_succ, i64_w, i32_w]
            rfl
          refine done_ (by kernel_rfl) ?_
          clear hHeld hK8 hK7 hK6 hN6 hN7 hB6 hB7H hX6 hX7 hR6 hR7 hO7H hstp
          generalize W6.heap.size = gy at *
          go_wp2
          go_loopw [12] (fun ii wr => ∃ i : Nat, at_ ≤ i ∧ i ≤ s.size + 1 ∧ ii = .int .i64 i ∧ Hid (Blk wr g 4 (arB s.size (fun p => if p < i then apP s (decide (op = 5)) (ks.take (j + 1)) at_ p else apP s (decide (op = 5)) (ks.take j) at_ p))) ∧ Hid (Below w.heap.size w wr) ∧ Hid (Blk wr gx 4 (arB s.size (stp s k (dlt at_)))) ∧ Hid (Blk wr w.heap.size 28 (boxC op s0 s1 s2 s3 mn mx (.slice (some ad) ks.length c)))) (fun ii _ => s.size + 1 - (intOf ii).toNat)
          case atStart => exact ⟨at_, by omega, by omega, rfl, Lib.hid (hR8.out.eqB (fun p _ => by
            by_cases h : p < at_
            · rw [if_pos h]; unfold apP; simp [show ¬ at_ ≤ p by omega]
            · rw [if_neg h])), hB8H, hO8H, hX8⟩
          case round =>
            clear hR8 hB8H hO8H hX8
            obtain ⟨i2, hi21, hi22, rfl, hR, hB, hO, hX⟩ := hrel
            obtain ⟨wq, rfl⟩ : ∃ wq : World, wq = wr := ⟨_, rfl⟩
            by_cases hlt2 : i2 < s.size + 1
            · have hd3 : decide ((i2 : Int) < ((s.size + 1 : Nat) : Int)) = true := decide_eq_true (by omega)
              have hd30 : (0 : Int) ≤ (i2 : Int) := by omega
              have hd31 : (i2 : Int) < ((s.size + 1 : Nat) : Int) := by omega
              have hd32 : i2 < s.size + 1 := hlt2
              have hcy0 := hR.out.cellB i2 (by omega)
              have hcx0 := hO.out.cellB i2 (by omega)
              simp only [Nat.lt_irrefl, if_false] at hcy0
              have hfg := hR.out.frozen i2
              obtain ⟨y, hy⟩ : ∃ y, y = apP s (decide (op = 5)) (ks.take j) at_ i2 := ⟨_, rfl⟩
              obtain ⟨x, hx⟩ : ∃ x, x = stp s k (dlt at_) i2 := ⟨_, rfl⟩
              rw [← hy] at hcy0
              rw [← hx] at hcx0
              have hcy := Lib.hid hcy0
              have hcx := Lib.hid hcx0
              have hset : Hid (∀ z, z = (y && (x != decide (op = 5))) → Blk (wq.drew.setCell ⟨g, i2, none⟩ (.bool z)) g 4 (arB s.size (fun p => if p < i2 + 1 then apP s (decide (op = 5)) (ks.take (j + 1)) at_ p else apP s (decide (op = 5)) (ks.take j) at_ p))) := Lib.hid (fun z hz =>
                ((show Blk wq.drew g 4 _ from hR.out).setB i2 z (by omega)).eqB (fun p _ => by
                  simp only [upd]
                  by_cases e : p = i2
                  · subst e; rw [if_pos rfl, if_pos (by omega), hap.out, ← hy, ← hx]; exact hz
                  · rw [if_neg e]
                    by_cases h1 : p < i2
                    · rw [if_pos h1, if_pos (by omega)]
                    · rw [if_neg h1, if_neg (by omega)]))
              have hB10 : Hid (∀ z, Below w.heap.size w (wq.drew.setCell ⟨g, i2, none⟩ (.bool z))) := Lib.hid (fun z => (below_drew1 hB.out).setCell (p := ⟨g, i2, none⟩) (Nat.le_of_lt hgw) _)
              have hO10 : Hid (∀ z, Blk (wq.drew.setCell ⟨g, i2, none⟩ (.bool z)) gx 4 (arB s.size (stp s k (dlt at_)))) := Lib.hid (fun z => Blk.far (p := ⟨g, i2, none⟩) (show Blk wq.drew gx 4 _ from hO.out) (by simp only; omega) _)
              have hX10 : Hid (∀ z, Blk (wq.drew.setCell ⟨g, i2, none⟩ (.bool z)) w.heap.size 28 (boxC op s0 s1 s2 s3 mn mx (.slice (some ad) ks.length c))) := Lib.hid (fun z => Blk.far (p := ⟨g, i2, none⟩) (show Blk wq.drew w.heap.size 28 _ from hX.out) (by simp only; omega) _)
              clear hcy0 hcx0 hx hy hR hO
              have hXc := Lib.hid hX.out
              cases y with
              | true =>
                go_wp2
                refine start_ (n := 18) (S := (fun w' => w'.cell? ⟨g, i2, none⟩ = some (.bool true) ∧ w'.cell? ⟨gx, i2, none⟩ = some (.bool x) ∧ w'.cell? ⟨w.heap.size, 0, none⟩ = some (.int .i64 op))) (ds := [17]) #[false, false, false, false, false, false, false, false, false, false, false, false, false, false, false, false, false, false] (by kernel_rfl) rfl rfl ?_ (fun hHeld => ?_)
                · exact ⟨hcy.out, hcx.out, hX.out.cell 0⟩
                refine pure_ (i := 0) (N := (some 45)) (v := ?_) (a' := ?_) #[true, false, false, false, false, false, false, false, false, false, false, false, false, false, false, false, false, false] rfl rfl (by kernel_rfl) (fun _ _ _ h => h) (Or.inl ⟨by rfl, ?_⟩) ?_ ?_
                rotate_left
                · intro w'
                  go_simp
                  with_reducible rfl
                rotate_left
                · simp only [Act.put, List.setIfInBounds_toArray, List.set_cons_zero, List.set_cons_succ, i64_w, i32_w]
                  rfl
                refine pure_ (i := 1) (N := (some 46)) (v := ?_) (a' := ?_) #[true, true, false, false, false, false, false, false, false, false, false, false, false, false, false, false, false, false] rfl rfl (by kernel_rfl) (fun _ _ _ h => h) (Or.inl ⟨by rfl, ?_⟩) ?_ ?_
                rotate_left
                · intro w'
                  go_simp
                  with_reducible rfl
                rotate_left
                · simp only [Act.put, List.setIfInBounds_toArray, List.set_cons_zero, List.set_cons_succ, i64_w, i32_w]
                  rfl
                refine pure_ (i := 2) (N := (some 47)) (v := ?_) (a' := ?_) #[true, true, true, false, false, false, false, false, false, false, false, false, false, false, false, false, false, false] rfl rfl (by kernel_rfl) (fun _ _ _ h => h) (Or.inl ⟨by rfl, ?_⟩) ?_ ?_
                rotate_left
                · intro w'
                  go_simp
                  with_reducible rfl
                rotate_left
                · simp only [Act.put, List.setIfInBounds_toArray, List.set_cons_zero, List.set_cons_succ, i64_w, i32_w]
                  rfl
                refine pure_ (i := 3) (N := (some 48)) (v := ?_) (a' := ?_) #[true, true, true, true, false, false, false, false, false, false, false, false, false, false, false, false, false, false] rfl rfl (by kernel_rfl) (fun _ _ _ h => h) (Or.inl ⟨by rfl, ?_⟩) ?_ ?_
                rotate_left
                · intro w'
                  go_simp
                  with_reducible rfl
                rotate_left
                · simp only [Act.put, List.setIfInBounds_toArray, List.set_cons_zero, List.set_cons_succ, i64_w, i32_w]
                  rfl
                refine pure_ (i := 4) (N := (some 49)) (v := ?_) (a' := ?_) #[true, true, true, true, true, false, false, false, false, false, false, false, false, false, false, false, false, false] rfl rfl (by kernel_rfl) (fun _ _ _ h => h) (Or.inl ⟨by rfl, ?_⟩) ?_ ?_
                rotate_left
                · intro w'
                  go_simp
                  with_reducible rfl
                rotate_left
                · simp only [Act.put, List.setIfInBounds_toArray, List.set_cons_zero, List.set_cons_succ, i64_w, i32_w]
                  rfl
                refine take_ (i := 5) (N := (some 50)) (v := ?_) (a' := ?_) #[true, true, true, true, true, true, false, false, false, false, false, false, false, false, false, false, false, false] rfl rfl (by kernel_rfl) (fun _ _ _ h => h) (Or.inl ⟨by rfl, ?_⟩) hHeld ?_ ?_
                rotate_left
                · intro w' ⟨e0, e1, e2⟩
                  go_simp
                  with_reducible rfl
                rotate_left
                · simp only [Act.put, List.setIfInBounds_toArray, List.set_cons_zero, List.set_cons_succ, i64_w, i32_w]
                  rfl
                refine pure_ (i := 6) (N := (some 51)) (v := ?_) (a' := ?_) #[true, true, true, true, true, true, true, false, false, false, false, false, false, false, false, false, false, false] rfl rfl (by kernel_rfl) (fun _ _ _ h => h) (Or.inl ⟨by rfl, ?_⟩) ?_ ?_
                rotate_left
                · intro w'
                  go_simp
                  with_reducible rfl
                rotate_left
                · simp only [Act.put, List.setIfInBounds_toArray, List.set_cons_zero, List.set_cons_succ, i64_w, i32_w]
                  rfl
                refine pure_ (i := 7) (N := (some 52)) (v := ?_) (a' := ?_) #[true, true, true, true, true, true, true, true, false, false, false, false, false, false, false, false, false, false] rfl rfl (by kernel_rfl) (fun _ _ _ h => h) (Or.inl ⟨by rfl, ?_⟩) ?_ ?_
                rotate_left
                · intro w'
                  go_simp
                  with_reducible rfl
                rotate_left
                · simp only [Act.put, List.setIfInBounds_toArray, List.set_cons_zero, List.set_cons_succ, i64_w, i32_w]
                  rfl
                refine pure_ (i := 8) (N := (some 53)) (v := ?_) (a' := ?_) #[true, true, true, true, true, true, true, true, true, false, false, false, false, false, false, false, false, false] rfl rfl (by kernel_rfl) (fun _ _ _ h => h) (Or.inl ⟨by rfl, ?_⟩) ?_ ?_
                rotate_left
                · intro w'
                  go_simp
                  with_reducible rfl
                rotate_left
                · simp only [Act.put, List.setIfInBounds_toArray, List.set_cons_zero, List.set_cons_succ, i64_w, i32_w]
                  rfl
                refine pure_ (i := 9) (N := (some 54)) (v := ?_) (a' := ?_) #[true, true, true, true, true, true, true, true, true, true, false, false, false, false, false, false, false, false] rfl rfl (by kernel_rfl) (fun _ _ _ h => h) (Or.inl ⟨by rfl, ?_⟩) ?_ ?_
                rotate_left
                · intro w'
                  go_simp
                  with_reducible rfl
                rotate_left
                · simp only [Act.put, List.setIfInBounds_toArray, List.set_cons_zero, List.set_cons_succ, i64_w, i32_w]
                  rfl
                refine take_ (i := 10) (N := (some 55)) (v := ?_) (a' := ?_) #[true, true, true, true, true, true, true, true, true, true, true, false, false, false, false, false, false, false] rfl rfl (by kernel_rfl) (fun _ _ _ h => h) (Or.inl ⟨by rfl, ?_⟩) hHeld ?_ ?_
                rotate_left
                · intro w' ⟨e0, e1, e2⟩
                  go_simp
                  with_reducible rfl
                rotate_left
                · simp only [Act.put, List.setIfInBounds_toArray, List.set_cons_zero, List.set_cons_succ, i64_w, i32_w]
                  rfl
                refine pure_ (i := 11) (N := (some 56)) (v := ?_) (a' := ?_) #[true, true, true, true, true, true, true, true, true, true, true, true, false, false, false, false, false, false] rfl rfl (by kernel_rfl) (fun _ _ _ h => h) (Or.inl ⟨by rfl, ?_⟩) ?_ ?_
                rotate_left
                · intro w'
                  go_simp
                  with_reducible rfl
                rotate_left
                · simp only [Act.put, List.setIfInBounds_toArray, List.set_cons_zero, List.set_cons_succ, i64_w, i32_w]
                  rfl
                refine take_ (i := 12) (N := (some 57)) (v := ?_) (a' := ?_) #[true, true, true, true, true, true, true, true, true, true, true, true, true, false, false, false, false, false] rfl rfl (by kernel_rfl) (fun _ _ _ h => h) (Or.inl ⟨by rfl, ?_⟩) hHeld ?_ ?_
                rotate_left
                · intro w' ⟨e0, e1, e2⟩
                  go_simp
                  with_reducible rfl
                rotate_left
                · simp only [Act.put, List.setIfInBounds_toArray, List.set_cons_zero, List.set_cons_succ, i64_w, i32_w]
                  rfl
                refine pure_ (i := 13) (N := (some 58)) (v := ?_) (a' := ?_) #[true, true, true, true, true, true, true, true, true, true, true, true, true, true, false, false, false, false] rfl rfl (by kernel_rfl) (fun _ _ _ h => h) (Or.inl ⟨by rfl, ?_⟩) ?_ ?_
                rotate_left
                · intro w'
                  go_simp
                  with_reducible rfl
                rotate_left
                · simp only [Act.put, List.setIfInBounds_toArray, List.set_cons_zero, List.set_cons_succ, i64_w, i32_w]
                  rfl
                refine pure_ (i := 14) (N := (some 59)) (v := ?_) (a' := ?_) #[true, true, true, true, true, true, true, true, true, true, true, true, true, true, true, false, false, false] rfl rfl (by kernel_rfl) (fun _ _ _ h => h) (Or.inl ⟨by rfl, ?_⟩) ?_ ?_
                rotate_left
                · intro w'
                  go_simp
                  with_reducible rfl
                rotate_left
                · simp only [Act.put, List.setIfInBounds_toArray, List.set_cons_zero, List.set_cons_succ, i64_w, i32_w]
                  rfl
                refine pure_ (i := 15) (N := (some 60)) (v := ?_) (a' := ?_) #[true, true, true, true, true, true, true, true, true, true, true, true, true, true, true, true, false, false] rfl rfl (by kernel_rfl) (fun _ _ _ h => h) (Or.inl ⟨by rfl, ?_⟩) ?_ ?_
                rotate_left
                · intro w'
                  go_simp
                  with_reducible rfl
                rotate_left
                · simp only [Act.put, List.setIfInBounds_toArray, List.set_cons_zero, List.set_cons_succ, i64_w, i32_w]
                  rfl
                refine pure_ (i := 16) (N := (some 61)) (v := ?_) (a' := ?_) #[true, true, true, true, true, true, true, true, true, true, true, true, true, true, true, true, true, false] rfl rfl (by kernel_rfl) (fun _ _ _ h => h) (Or.inl ⟨by rfl, ?_⟩) ?_ ?_
                rotate_left
                · intro w'
                  go_simp
                  with_reducible rfl
                rotate_left
                · simp only [Act.put, List.setIfInBounds_toArray, List.set_cons_zero, List.set_cons_succ, i64_w, i32_w]
                  rfl
                refine last_ (i := 17) (N := none) #[true, true, true, true, true, true, true, true, true, true, true, true, true, true, true, true, true, true] rfl rfl (by kernel_rfl) (by decide) (fun K hK => ?_)
                refine skip_ (w1 := ?_) (by rfl) rfl ?_ ?_
                rotate_left
                · go_simp
                  rfl
                refine hK.out _ _ ?_
                clear hK K
                refine done_ (by kernel_rfl) ?_
                go_wp2
                go_roundw
                case rel => exact ⟨i2 + 1, by omega, by omega, by go_num, Lib.hid (hset.out _ (by first | rfl | simp)), Lib.hid (hB10.out _), Lib.hid (hO10.out _), Lib.hid (hX10.out _)⟩
                case measure => simp [intOf]; omega
              | false =>
                go_wp2
                refine start_ (n := 18) (S := (fun w' => w'.cell? ⟨g, i2, none⟩ = some (.bool false) ∧ w'.cell? ⟨gx, i2, none⟩ = some (.bool x) ∧ w'.cell? ⟨w.heap.size, 0, none⟩ = some (.int .i64 op))) (ds := [17]) #[false, false, false, false, false, false, false, false, false, false, false, false, false, false, false, false, false, false] (by kernel_rfl) rfl rfl ?_ (fun hHeld => ?_)
                · exact ⟨hcy.out, hcx.out, hX.out.cell 0⟩
                refine pure_ (i := 0) (N := (some 45)) (v := ?_) (a' := ?_) #[true, false, false, false, false, false, false, false, false, false, false, false, false, false, false, false, false, false] rfl rfl (by kernel_rfl) (fun _ _ _ h => h) (Or.inl ⟨by rfl, ?_⟩) ?_ ?_
                rotate_left
                · intro w'
                  go_simp
                  with_reducible rfl
                rotate_left
                · simp only [Act.put, List.setIfInBounds_toArray, List.set_cons_zero, List.set_cons_succ, i64_w, i32_w]
                  rfl
                refine pure_ (i := 1) (N := (some 46)) (v := ?_) (a' := ?_) #[true, true, false, false, false, false, false, false, false, false, false, false, false, false, false, false, false, false] rfl rfl (by kernel_rfl) (fun _ _ _ h => h) (Or.inl ⟨by rfl, ?_⟩) ?_ ?_
                rotate_left
                · intro w'
                  go_simp
                  with_reducible rfl
                rotate_left
                · simp only [Act.put, List.setIfInBounds_toArray, List.set_cons_zero, List.set_cons_succ, i64_w, i32_w]
                  rfl
                refine pure_ (i := 2) (N := (some 47)) (v := ?_) (a' := ?_) #[true, true, true, false, false, false, false, false, false, false, false, false, false, false, false, false, false, false] rfl rfl (by kernel_rfl) (fun _ _ _ h => h) (Or.inl ⟨by rfl, ?_⟩) ?_ ?_
                rotate_left
                · intro w'
                  go_simp
                  with_reducible rfl
                rotate_left
                · simp only [Act.put, List.setIfInBounds_toArray, List.set_cons_zero, List.set_cons_succ, i64_w, i32_w]
                  rfl
                refine pure_ (i := 3) (N := (some 48)) (v := ?_) (a' := ?_) #[true, true, true, true, false, false, false, false, false, false, false, false, false, false, false, false, false, false] rfl rfl (by kernel_rfl) (fun _ _ _ h => h) (Or.inl ⟨by rfl, ?_⟩) ?_ ?_
                rotate_left
                · intro w'
                  go_simp
                  with_reducible rfl
                rotate_left
                · simp only [Act.put, List.setIfInBounds_toArray, List.set_cons_zero, List.set_cons_succ, i64_w, i32_w]
                  rfl
                refine pure_ (i := 4) (N := (some 49)) (v := ?_) (a' := ?_) #[true, true, true, true, true, false, false, false, false, false, false, false, false, false, false, false, false, false] rfl rfl (by kernel_rfl) (fun _ _ _ h => h) (Or.inl ⟨by rfl, ?_⟩) ?_ ?_
                rotate_left
                · intro w'
                  go_simp
                  with_reducible rfl
                rotate_left
                · simp only [Act.put, List.setIfInBounds_toArray, List.set_cons_zero, List.set_cons_succ, i64_w, i32_w]
                  rfl
                refine take_ (i := 5) (N := (some 50)) (v := ?_) (a' := ?_) #[true, true, true, true, true, true, false, false, false, false, false, false, false, false, false, false, false, false] rfl rfl (by kernel_rfl) (fun _ _ _ h => h) (Or.inl ⟨by rfl, ?_⟩) hHeld ?_ ?_
                rotate_left
                · intro w' ⟨e0, e1, e2⟩
                  go_simp
                  with_reducible rfl
                rotate_left
                · simp only [Act.put, List.setIfInBounds_toArray, List.set_cons_zero, List.set_cons_succ, i64_w, i32_w]
                  rfl
                refine pure_ (i := 6) (N := (some 51)) (v := ?_) (a' := ?_) #[true, true, true, true, true, true, true, false, false, false, false, false, false, false, false, false, false, false] rfl rfl (by kernel_rfl) (fun _ _ _ h => h) (Or.inl ⟨by rfl, ?_⟩) ?_ ?_
                rotate_left
                · intro w'
                  go_simp
                  with_reducible rfl
                rotate_left
                · simp only [Act.put, List.setIfInBounds_toArray, List.set_cons_zero, List.set_cons_succ, i64_w, i32_w]
                  rfl
                refine pure_ (i := 7) (N := (some 52)) (v := undef) (a' := ?_) #[true, true, true, true, true, true, true, true, false, false, false, false, false, false, false, false, false, false] rfl rfl (by kernel_rfl) (fun _ _ _ h => h) (Or.inr ⟨by rfl, rfl⟩) ?_ ?_
                rotate_left
                · simp only [Act.put, List.setIfInBounds_toArray, List.set_cons_zero, List.set_cons_succ, i64_w, i32_w]
                  rfl
                refine pure_ (i := 8) (N := (some 53)) (v := undef) (a' := ?_) #[true, true, true, true, true, true, true, true, true, false, false, false, false, false, false, false, false, false] rfl rfl (by kernel_rfl) (fun _ _ _ h => h) (Or.inr ⟨by rfl, rfl⟩) ?_ ?_
                rotate_left
                · simp only [Act.put, List.setIfInBounds_toArray, List.set_cons_zero, List.set_cons_succ, i64_w, i32_w]
                  rfl
                refine pure_ (i := 9) (N := (some 54)) (v := undef) (a' := ?_) #[true, true, true, true, true, true, true, true, true, true, false, false, false, false, false, false, false, false] rfl rfl (by kernel_rfl) (fun _ _ _ h => h) (Or.inr ⟨by rfl, rfl⟩) ?_ ?_
                rotate_left
                · simp only [Act.put, List.setIfInBounds_toArray, List.set_cons_zero, List.set_cons_succ, i64_w, i32_w]
                  rfl
                refine pure_ (i := 10) (N := (some 55)) (v := undef) (a' := ?_) #[true, true, true, true, true, true, true, true, true, true, true, false, false, false, false, false, false, false] rfl rfl (by kernel_rfl) (fun _ _ _ h => h) (Or.inr ⟨by rfl, rfl⟩) ?_ ?_
                rotate_left
                · simp only [Act.put, List.setIfInBounds_toArray, List.set_cons_zero, List.set_cons_succ, i64_w, i32_w]
                  rfl
                refine pure_ (i := 11) (N := (some 56)) (v := undef) (a' := ?_) #[true, true, true, true, true, true, true, true, true, true, true, true, false, false, false, false, false, false] rfl rfl (by kernel_rfl) (fun _ _ _ h => h) (Or.inr ⟨by rfl, rfl⟩) ?_ ?_
                rotate_left
                · simp only [Act.put, List.setIfInBounds_toArray, List.set_cons_zero, List.set_cons_succ, i64_w, i32_w]
                  rfl
                refine pure_ (i := 12) (N := (some 57)) (v := undef) (a' := ?_) #[true, true, true, true, true, true, true, true, true, true, true, true, true, false, false, false, false, false] rfl rfl (by kernel_rfl) (fun _ _ _ h => h) (Or.inr ⟨by rfl, rfl⟩) ?_ ?_
                rotate_left
                · simp only [Act.put, List.setIfInBounds_toArray, List.set_cons_zero, List.set_cons_succ, i64_w, i32_w]
                  rfl
                refine pure_ (i := 13) (N := (some 58)) (v := undef) (a' := ?_) #[true, true, true, true, true, true, true, true, true, true, true, true, true, true, false, false, false, false] rfl rfl (by kernel_rfl) (fun _ _ _ h => h) (Or.inr ⟨by rfl, rfl⟩) ?_ ?_
                rotate_left
                · simp only [Act.put, List.setIfInBounds_toArray, List.set_cons_zero, List.set_cons_succ, i64_w, i32_w]
                  rfl
                refine pure_ (i := 14) (N := (some 59)) (v := undef) (a' := ?_) #[true, true, true, true, true, true, true, true, true, true, true, true, true, true, true, false, false, false] rfl rfl (by kernel_rfl) (fun _ _ _ h => h) (Or.inr ⟨by rfl, rfl⟩) ?_ ?_
                rotate_left
                · simp only [Act.put, List.setIfInBounds_toArray, List.set_cons_zero, List.set_cons_succ, i64_w, i32_w]
                  rfl
                refine pure_ (i := 15) (N := (some 60)) (v := ?_) (a' := ?_) #[true, true, true, true, true, true, true, true, true, true, true, true, true, true, true, true, false, false] rfl rfl (by kernel_rfl) (fun _ _ _ h => h) (Or.inl ⟨by rfl, ?_⟩) ?_ ?_
                rotate_left
                · intro w'
                  go_simp
                  with_reducible rfl
                rotate_left
                · simp only [Act.put, List.setIfInBounds_toArray, List.set_cons_zero, List.set_cons_succ, i64_w, i32_w]
                  rfl
                refine pure_ (i := 16) (N := (some 61)) (v := ?_) (a' := ?_) #[true, true, true, true, true, true, true, true, true, true, true, true, true, true, true, true, true, false] rfl rfl (by kernel_rfl) (fun _ _ _ h => h) (Or.inl ⟨by rfl, ?_⟩) ?_ ?_
                rotate_left
                · intro w'
                  go_simp
                  with_reducible rfl
                rotate_left
                · simp only [Act.put, List.setIfInBounds_toArray, List.set_cons_zero, List.set_cons_succ, i64_w, i32_w]
                  rfl
                refine last_ (i := 17) (N := none) #[true, true, true, true, true, true, true, true, true, true, true, true, true, true, true, true, true, true] rfl rfl (by kernel_rfl) (by decide) (fun K hK => ?_)
                refine skip_ (w1 := ?_) (by rfl) rfl ?_ ?_
                rotate_left
                · go_simp
                  rfl
                refine hK.out _ _ ?_
                clear hK K
                refine done_ (by kernel_rfl) ?_
                go_wp2
                go_roundw
                case rel => exact ⟨i2 + 1, by omega, by omega, by go_num, Lib.hid (hset.out _ (by first | rfl | simp)), Lib.hid (hB10.out _), Lib.hid (hO10.out _), Lib.hid (hX10.out _)⟩
                case measure => simp [intOf]; omega
            · have hd3 : decide ((i2 : Int) < ((s.size + 1 : Nat) : Int)) = false := decide_eq_false (by omega)
              have hE := Lib.hid (hR.out.eqB (Q := apP s (decide (op = 5)) (ks.take (j + 1)) at_) (fun p hp => by rw [if_pos (by omega)]))
              clear hR
              go_wp2
              go_roundw
              case rel => exact ⟨j + 1, by omega, by go_num, hE, hB, hX⟩
              case measure => simp [intOf]; omega
        · have hd2 : decide ((j : Int) < (ks.length : Int)) = false := decide_eq_false (by omega)
          obtain rfl : ks.length = j := by omega
          rw [hfull.out] at hR
          go_wp2
          go_ret
          exact ⟨g, rfl, Nat.le_of_lt hgw, hR.out, hB.out⟩
end Go.Proofs.Ytimhiacjoplkeaa
