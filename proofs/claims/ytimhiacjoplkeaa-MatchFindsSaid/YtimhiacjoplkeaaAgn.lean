/- again: its walk. Own text. -/
import Derived.Test.YtimhiacjoplkeaaCls
namespace Go.Proofs.Ytimhiacjoplkeaa
open Go.RowKit Go.Proofs.Ytimhiacjoplkeaa.P Go.Proofs.YtimhiacjoplkeaaW.PrintWords
set_option linter.unusedVariables false
set_option linter.unusedSimpArgs false
/-- What step does with a pattern. -/
def StepOk (s : ByteArray) (n : Nd) : Prop := ∀ (w : World) (v : Value) (h : Nat) (P : Nat → Bool), IsN w n v → (∀ i, P i = true → i ≤ s.size) → Blk w h 4 (arB s.size P) →
  Calls Try.prog 28 #[.string s, v, pv s.size h] w fun e w' => ∃ g, e = .returned (pv s.size g) ∧ w.heap.size ≤ g ∧ Blk w' g 4 (arB s.size (stp s n P)) ∧ Below w.heap.size w w'
/-- A kid's cells. -/
theorem kid_at {w : World} {A : Option Addr} {ks : List Nd} (h : NKs w A 0 ks) (j : Nat) (hj : j < ks.length) : ∃ ad A' c', A = some ad ∧ IsN w ks[j] (ndVal ks[j] (.slice A' ks[j].kids.length c')) ∧
    w.cell? (ad.add (j * 8)) = some (.int .i64 ks[j].op) ∧ w.cell? ⟨(ad.add (j * 8)).block, (ad.add (j * 8)).off + 1, none⟩ = some (.int .u64 ks[j].s0) ∧ w.cell? ⟨(ad.add (j * 8)).block, (ad.add (j * 8)).off + 2, none⟩ = some (.int .u64 ks[j].s1) ∧
    w.cell? ⟨(ad.add (j * 8)).block, (ad.add (j * 8)).off + 3, none⟩ = some (.int .u64 ks[j].s2) ∧ w.cell? ⟨(ad.add (j * 8)).block, (ad.add (j * 8)).off + 4, none⟩ = some (.int .u64 ks[j].s3) ∧ w.cell? ⟨(ad.add (j * 8)).block, (ad.add (j * 8)).off + 5, none⟩ = some (.int .i64 ks[j].mn) ∧
    w.cell? ⟨(ad.add (j * 8)).block, (ad.add (j * 8)).off + 6, none⟩ = some (.int .i64 ks[j].mx) ∧ w.cell? ⟨(ad.add (j * 8)).block, (ad.add (j * 8)).off + 7, none⟩ = some (.slice A' ks[j].kids.length c') := by
  obtain ⟨ad, cs, h1, h2, h3⟩ := NKs_get ks 0 h j _ (List.getElem?_eq_getElem hj)
  obtain ⟨A', c', rfl, h4, h5, h6⟩ := NK_cells h2
  rw [Nat.zero_add] at h3
  have hf : ∀ t u, 0 < t → (ndCells ks[j] (.slice A' ks[j].kids.length c'))[t]? = some u → w.cell? ⟨(ad.add (j * 8)).block, (ad.add (j * 8)).off + t, none⟩ = some u := fun t u ht hu => by
    rw [← add_field ad (j * 8) t ht]; exact h3 t u hu
  exact ⟨ad, A', c', h1, ⟨A', c', rfl, h4, h5, h6⟩, h3 0 _ rfl, hf 1 _ (by omega) rfl, hf 2 _ (by omega) rfl, hf 3 _ (by omega) rfl, hf 4 _ (by omega) rfl, hf 5 _ (by omega) rfl, hf 6 _ (by omega) rfl, hf 7 _ (by omega) rfl⟩
theorem op_mk (op s0 s1 s2 s3 mn mx : Int) (ks : List Nd) : (Nd.mk op s0 s1 s2 s3 mn mx ks).op = op := rfl
theorem s0_mk (op s0 s1 s2 s3 mn mx : Int) (ks : List Nd) : (Nd.mk op s0 s1 s2 s3 mn mx ks).s0 = s0 := rfl
theorem s1_mk (op s0 s1 s2 s3 mn mx : Int) (ks : List Nd) : (Nd.mk op s0 s1 s2 s3 mn mx ks).s1 = s1 := rfl
theorem s2_mk (op s0 s1 s2 s3 mn mx : Int) (ks : List Nd) : (Nd.mk op s0 s1 s2 s3 mn mx ks).s2 = s2 := rfl
theorem s3_mk (op s0 s1 s2 s3 mn mx : Int) (ks : List Nd) : (Nd.mk op s0 s1 s2 s3 mn mx ks).s3 = s3 := rfl
theorem mn_mk (op s0 s1 s2 s3 mn mx : Int) (ks : List Nd) : (Nd.mk op s0 s1 s2 s3 mn mx ks).mn = mn := rfl
theorem mx_mk (op s0 s1 s2 s3 mn mx : Int) (ks : List Nd) : (Nd.mk op s0 s1 s2 s3 mn mx ks).mx = mx := rfl
theorem kids_mk (op s0 s1 s2 s3 mn mx : Int) (ks : List Nd) : (Nd.mk op s0 s1 s2 s3 mn mx ks).kids = ks := rfl
theorem add0 (ad : Addr) : ad.add 0 = ad := by unfold Addr.add; simp
abbrev boxC (op s0 s1 s2 s3 mn mx : Int) (v : Value) : Array Value := #[.int .i64 op, .int .u64 s0, .int .u64 s1, .int .u64 s2, .int .u64 s3, .int .i64 mn, .int .i64 mx, v]
theorem below_grown2 {B g : Nat} {w W W' : World} (h : Below B w W) (hB : B ≤ W.heap.size) (hg : W.grownBy W' (some g)) (hBg : B ≤ g) : Below B w W' := h.grown hg hB (fun k hk => by injection hk with hk; omega)
set_option maxRecDepth 20000 in
set_option maxHeartbeats 2000000 in
theorem again_c (s : ByteArray) (hs : s.size ≤ 1000000) (op s0 s1 s2 s3 mn mx : Int) (k : Nd) (ks : List Nd) (hk : StepOk s k) (hmn : 0 ≤ mn ∧ mn ≤ 1000) (hmx : mx ≤ 1000) (w : World) (v : Value) (h : Nat) (P : Nat → Bool)
    (hn : IsN w (.mk op s0 s1 s2 s3 mn mx (k :: ks)) v) (hP : ∀ i, P i = true → i ≤ s.size) (hr : Blk w h 4 (arB s.size P)) :
    Calls Try.prog 36 #[.string s, v, pv s.size h] w fun e w' => ∃ g, e = .returned (pv s.size g) ∧ w.heap.size ≤ g ∧ Blk w' g 4 (arB s.size (stpR s mn mx (k :: ks) P)) ∧ Below w.heap.size w w' := by
  obtain ⟨A, c, rfl, hc, hlen, hK⟩ := hn
  obtain ⟨M, rfl⟩ := Int.eq_ofNat_of_zero_le hmn.1
  obtain ⟨ad, A', c', hA, hN0, q0, q1, q2, q3, q4, q5, q6, q7⟩ := kid_at hK 0 (by simp [kids_mk])
  simp only [kids_mk, List.getElem_cons_zero, Nat.zero_mul, add0] at hN0 q0 q1 q2 q3 q4 q5 q6 q7
  subst hA
  simp only [op_mk, s0_mk, s1_mk, s2_mk, s3_mk, mn_mk, mx_mk, kids_mk] at hc hlen ⊢
  obtain ⟨n, hn⟩ : ∃ n, (k :: ks).length = n + 1 := ⟨ks.length, rfl⟩
  rw [hn]
  have hf : Lin s.size (stp s k) := stp_lin s k
  have hcl := Lib.hid (fun (t B : Nat) (ht : t ≤ B) hno j => closed_eq hf (itr_bd hf hP M) t B ht hno j)
  have hbd := Lib.hid (fun t => itr_bd hf hP t)
  have hbd2 := Lib.hid (fun t => itr_bd hf (itr_bd hf hP M) t)
  have hst : stpR s (M : Int) mx (k :: ks) P = upTo (stp s k) (if mx < 0 then s.size + 1 else (mx - (M : Int)).toNat) (itr (stp s k) M P) := by unfold stpR; rfl
  rw [hst]
  have hcell := Lib.hid (fun (w1 : World) (hb : Below w.heap.size w w1) => And.intro (hN0.below hb) (And.intro (pw_cell_below hb q0) (And.intro (pw_cell_below hb q1) (And.intro (pw_cell_below hb q2) (And.intro (pw_cell_below hb q3) (And.intro (pw_cell_below hb q4) (And.intro (pw_cell_below hb q5) (And.intro (pw_cell_below hb q6) (pw_cell_below hb q7)))))))))
  have hstep := Lib.hid (fun w v h P (a : IsN w k v) b c => hk w v h P a b c)
  have hrH := Lib.hid hr
  have hhlt := hr.lt
  have hnone := Lib.hid (fun w1 => none_c s hs w1)
  have hmark := Lib.hid (fun g h hgh P Q w hg hh => mark_c g h s.size hs hgh P Q w hg hh)
  have hM : M ≤ 1000 := by omega
  clear hk hr hP hst hN0 q0 q1 q2 q3 q4 q5 q6 q7 hK hn hf hc hlen
  generalize stp s k = f at *
  obtain ⟨P0, hP0⟩ : ∃ P0, P0 = itr f M P := ⟨_, rfl⟩
  rw [← hP0] at hcl hbd2 ⊢
  have hP0H := Lib.hid hP0
  clear hP0
  obtain ⟨B, hBd⟩ : ∃ B, B = if mx < 0 then s.size + 1 else (mx - (M : Int)).toNat := ⟨_, rfl⟩
  rw [← hBd]
  have hBnegH : Hid (mx < 0 → B = s.size + 1) := Lib.hid (fun h => by rw [hBd, if_pos h])
  have hBposH : Hid (0 ≤ mx → B = (mx - (M : Int)).toNat) := Lib.hid (fun h => by rw [hBd, if_neg (by omega)])
  clear hBd
  obtain ⟨m, hm⟩ : ∃ m, m = k.kids.length := ⟨_, rfl⟩
  rw [← hm] at hcell
  clear hm
  show Calls Try.prog 36 #[.string s, .agg (boxC op s0 s1 s2 s3 (M : Int) mx (.slice (some ad) (n + 1) c)), pv s.size h] w _
  go_enter Try.func36, Try.ntmps36
  go_wp2
  have hbx := Lib.hid (Blk.new w 28 (boxC op s0 s1 s2 s3 (M : Int) mx (.slice (some ad) (n + 1) c)))
  have hB0 := Lib.hid (below_alloc (Below.refl w.heap.size w) (.cells (boxC op s0 s1 s2 s3 (M : Int) mx (.slice (some ad) (n + 1) c)) 28))
  have hr0 := Lib.hid (hrH.out.below hB0.out hhlt)
  generalize w.alloc (.cells (boxC op s0 s1 s2 s3 (M : Int) mx (.slice (some ad) (n + 1) c)) 28) = W0 at *
  go_loopw [2, 11] (fun pp tt wr => ∃ t g : Nat, t ≤ M ∧ tt = .int .i64 t ∧ pp = pv s.size g ∧ Hid (Blk wr g 4 (arB s.size (itr f t P))) ∧ Hid (Below w.heap.size w wr) ∧ Hid (Blk wr w.heap.size 28 (boxC op s0 s1 s2 s3 (M : Int) mx (.slice (some ad) (n + 1) c)))) (fun _ tt _ => M - (intOf tt).toNat)
  case atStart => exact ⟨0, h, by omega, rfl, rfl, hr0, hB0, hbx⟩
  case round =>
    clear hr0 hB0 hbx
    obtain ⟨t, g, ht, rfl, rfl, hR, hB, hX⟩ := hrel
    obtain ⟨wo, rfl⟩ : ∃ wo : World, wo = wr := ⟨_, rfl⟩
    have hc5 : wo.cell? ⟨w.heap.size, 5, none⟩ = some (.int .i64 (M : Int)) := hX.out.cell 5
    have hc6 : wo.cell? ⟨w.heap.size, 6, none⟩ = some (.int .i64 mx) := hX.out.cell 6
    have hc7 : wo.cell? ⟨w.heap.size, 7, none⟩ = some (.slice (some ad) (n + 1) c) := hX.out.cell 7
    by_cases hlt : t < M
    · have hd : decide ((t : Int) < (M : Int)) = true := decide_eq_true (by omega)
      obtain ⟨hN0, q0, q1, q2, q3, q4, q5, q6, q7⟩ := hcell.out _ hB.out
      have hN0H := Lib.hid hN0
      clear hN0
      have hi0 : (0 : Int) < ((n + 1 : Nat) : Int) := by omega
      have hi1 : 0 < n + 1 := by omega
      go_wp2_with (go_at_call 28; refine (hstep.out _ _ g _ hN0H.out (hbd.out t) hR.out).mono ?_; rintro e w2 ⟨g2, rfl, hg2, hR2, hB2⟩; have hR2H := Lib.hid hR2; have hX2 := Lib.hid (hX.out.below hB2 hX.out.lt); have hB2H := Lib.hid (below_then hB.out hB.out.size hB2); clear hR2 hB2)
      go_roundw
      case rel => exact ⟨t + 1, g2, by omega, by go_num, rfl, by rw [itr_succ]; exact hR2H, hB2H, hX2⟩
      case measure => simp [intOf]; omega
    · have hd : decide ((t : Int) < (M : Int)) = false := decide_eq_false (by omega)
      obtain rfl : M = t := by omega
      go_wp2_with (first
        | (go_at_call 33; refine (hnone.out _).mono ?_; rintro e w2 ⟨rfl, hb2, hB2⟩; have hE2 := Lib.hid hb2; have hB2H := Lib.hid (below_then hB.out hB.out.size hB2); have hX2 := Lib.hid (hX.out.below hB2 hX.out.lt); have hR2 := Lib.hid (hR.out.below hB2 hR.out.lt); have hgo := hR.out.lt; clear hb2 hB2)
        | (go_at_call 35; refine (hmark.out _ g (by omega) _ _ _ hE2.out hR2.out).mono ?_; rintro e w3 ⟨rfl, hE3, hg3⟩; have hE3H := Lib.hid hE3; have hB3H := Lib.hid (below_grown2 hB2H.out hB2H.out.size hg3 hB.out.size); have hX3 := Lib.hid ((hg3.block _ hX2.out.lt (fun e => by have := hX.out.lt; injection e with e; omega)).trans hX2.out); have hR3 := Lib.hid ((hg3.block _ hR2.out.lt (fun e => by injection e with e; omega)).trans hR2.out); have hc35 : w3.cell? ⟨w.heap.size, 5, none⟩ = some (.int .i64 (M : Int)) := Blk.cell hX3.out 5; clear hE3 hg3))
      have hgw : w.heap.size < wo.heap.size := hX.out.lt
      generalize wo.heap.size = go at *
      have hE0 : Hid (Blk w3 go 4 (arB s.size (upTo f 0 P0))) := Lib.hid (hE3H.out.eqB (fun j _ => by simp [orP, upTo, hP0H.out]))
      have hp0 : Hid (Blk w3 g 4 (arB s.size (itr f 0 P0))) := by rw [hP0H.out]; exact hR3
      clear hE3H hR3 hE2 hR2 hX2 hB2H hX hB hR hc5 hc6 hc7
      go_loopw [2, 8] (fun pp kk wr => ∃ t gp : Nat, t ≤ B ∧ t ≤ cnt s.size (upTo f t P0) ∧ gp ≠ go ∧ kk = .int .i64 ((M : Int) + (t : Int)) ∧ pp = pv s.size gp ∧ Hid (Blk wr gp 4 (arB s.size (itr f t P0))) ∧ Hid (Blk wr go 4 (arB s.size (upTo f t P0))) ∧ Hid (Below w.heap.size w wr) ∧ Hid (Blk wr w.heap.size 28 (boxC op s0 s1 s2 s3 (M : Int) mx (.slice (some ad) (n + 1) c)))) (fun _ kk _ => M + s.size + 2 - (intOf kk).toNat)
      case atStart => exact ⟨0, g, by omega, by omega, by omega, by simp, rfl, hp0, hE0, hB3H, hX3⟩
      case round =>
        clear hp0 hE0 hB3H hX3 hc35
        obtain ⟨t, gp, htB, htc, hne, rfl, rfl, hR, hO, hB, hX⟩ := hrel
        obtain ⟨wo2, rfl⟩ : ∃ wo2 : World, wo2 = wr := ⟨_, rfl⟩
        have hc5 : wo2.cell? ⟨w.heap.size, 5, none⟩ = some (.int .i64 (M : Int)) := hX.out.cell 5
        have hc6 : wo2.cell? ⟨w.heap.size, 6, none⟩ = some (.int .i64 mx) := hX.out.cell 6
        have hc7 : wo2.cell? ⟨w.heap.size, 7, none⟩ = some (.slice (some ad) (n + 1) c) := hX.out.cell 7
        have hcle := cnt_le s.size (upTo f t P0)
        by_cases hgo2 : mx < 0 ∨ ((M : Int) + (t : Int)) < mx
        · obtain ⟨hN0, q0, q1, q2, q3, q4, q5, q6, q7⟩ := hcell.out _ hB.out
          have hN0H := Lib.hid hN0
          have hgpl := hR.out.lt
          have hgol := hO.out.lt
          have hXl := hX.out.lt
          have hi0 : (0 : Int) < ((n + 1 : Nat) : Int) := by omega
          have hi1 : 0 < n + 1 := by omega
          have htB2 : t + 1 ≤ B ∨ t = s.size + 1 := by
            by_cases hm : mx < 0
            · have := hBnegH.out hm; omega
            · have := hBposH.out (by omega); omega
          have htB2H := Lib.hid htB2
          have hfr := Lib.hid (fun (hh : anyNew s.size (upTo f t P0) (f (itr f t P0)) = true) => cnt_fresh hh)
          have hcl2 := Lib.hid (fun hh j => hcl.out t B htB hh j)
          have hup := Lib.hid (fun j => upTo_succ f t P0 j)
          have hup2 : cnt s.size (orP (upTo f t P0) (f (itr f t P0))) = cnt s.size (upTo f (t + 1) P0) := by
            unfold cnt trues
            rw [List.filter_congr (fun j _ => (hup.out j).symm)]
          have hup2H := Lib.hid hup2
          clear hN0 htB2 hup2
          have hd12 : decide (mx < 0) = true ∨ (decide (mx < 0) = false ∧ decide (((M : Int) + (t : Int)) < mx) = true) := by
            by_cases hm : mx < 0
            · exact .inl (decide_eq_true hm)
            · exact .inr ⟨decide_eq_false hm, decide_eq_true (by omega)⟩
          clear hgo2
          rcases hd12 with hd1 | ⟨hd1, hd2⟩ <;> (
            go_upto_region 11 with (go_at_call 28; refine (hstep.out _ _ gp _ hN0H.out (hbd2.out t) hR.out).mono ?_; rintro e w2 ⟨g2, rfl, hg2, hR2, hB2⟩; have hR2H := Lib.hid hR2; have hO2 := Lib.hid (hO.out.below hB2 hgol); have hX2 := Lib.hid (hX.out.below hB2 hXl); have hB2H := Lib.hid (below_then hB.out hB.out.size hB2); clear hR2 hB2)
            have hmk := hmark.out go g2 (by omega) _ _ _ hO2.out hR2H.out
            cases hfv : anyNew s.size (upTo f t P0) (f (itr f t P0)) with
            | true =>
              rw [hfv] at hmk
              have hcf := hfr.out hfv
              rw [hup2H.out] at hcf
              have hmkH := Lib.hid hmk
              clear hmk hfv
              go_wp2_with (go_at_call 35; refine hmkH.out.mono ?_; rintro e w3 ⟨rfl, hO3, hg3⟩; have hO3H := Lib.hid (hO3.eqB (fun j _ => (hup.out j).symm)); have hB3H := Lib.hid (below_grown2 hB2H.out hB2H.out.size hg3 (Nat.le_of_lt hgw)); have hX3 := Lib.hid ((hg3.block _ hX2.out.lt (fun e => by injection e with e; omega)).trans hX2.out); have hR3 := Lib.hid ((hg3.block _ hR2H.out.lt (fun e => by injection e with e; omega)).trans hR2H.out); clear hO3 hg3)
              go_roundw
              case rel => exact ⟨t + 1, g2, by have := htB2H.out; have := cnt_le s.size (upTo f (t + 1) P0); omega, by omega, by omega, by go_num, rfl, by rw [itr_succ]; exact hR3, hO3H, hB3H, hX3⟩
              case measure => simp [intOf]; omega
            | false =>
              rw [hfv] at hmk
              have hmkH := Lib.hid hmk
              have hce := Lib.hid (hcl2.out hfv)
              have hnn : Hid (∀ j, j ≤ s.size → orP (upTo f t P0) (f (itr f t P0)) j = upTo f B P0 j) := Lib.hid (fun j hj => by
                rw [hce.out j]
                cases hu : upTo f t P0 j with
                | true => simp [orP, hu]
                | false =>
                  cases hq : f (itr f t P0) j with
                  | false => simp [orP, hu, hq]
                  | true => exact absurd (anyNew_iff.2 ⟨j, hj, hq, hu⟩) (by rw [hfv]; simp))
              clear hmk hfv
              go_wp2_with (go_at_call 35; refine hmkH.out.mono ?_; rintro e w3 ⟨rfl, hO3, hg3⟩; have hO3H := Lib.hid (hO3.eqB hnn.out); have hB3H := Lib.hid (below_grown2 hB2H.out hB2H.out.size hg3 (Nat.le_of_lt hgw)); clear hO3 hg3)
              go_ret
              exact ⟨go, rfl, Nat.le_of_lt hgw, hO3H.out, hB3H.out⟩)
        · have hd1 : decide (mx < 0) = false := decide_eq_false (fun h => hgo2 (.inl h))
          have hd2 : decide (((M : Int) + (t : Int)) < mx) = false := decide_eq_false (fun h => hgo2 (.inr h))
          have hmx0 : ¬ mx < 0 := fun h => hgo2 (.inl h)
          have hbe := hBposH.out (by omega)
          have hle : ¬ ((M : Int) + (t : Int)) < mx := fun h => hgo2 (.inr h)
          have hBt : B = t := by omega
          clear hgo2 hbe hle hmx0
          subst hBt
          go_wp2
          go_ret
          exact ⟨go, rfl, Nat.le_of_lt hgw, hO.out, hB.out⟩
end Go.Proofs.Ytimhiacjoplkeaa
