/- The reference's often walked. Own text (printed by wip/c04/gen_oft.py). -/
import Derived.Test.YtimhiacjoplkeaaRHas
import Derived.Test.YtimhiacjoplkeaaApt
namespace Go.Proofs.Ytimhiacjoplkeaa
open Go.RowKit Go.Proofs.Ytimhiacjoplkeaa.P Go.Proofs.YtimhiacjoplkeaaW.PrintWords Go.Proofs.YtimhiacjoplkeaaW.PrintLast
set_option linter.unusedVariables false
set_option linter.unusedSimpArgs false
def FromOk (s : ByteArray) (n : Nd) : Prop := ∀ w v h P, IsN w n v → (∀ i, P i = true → i ≤ s.size) → Blk w h 4 (arB s.size P) →
  Calls Try.prog 39 #[v, .string s, pv s.size h] w fun e w' => ∃ g, e = .returned (pv s.size g) ∧ w.heap.size ≤ g ∧ Blk w' g 4 (arB s.size (stp s n P)) ∧ Below w.heap.size w w'
set_option maxRecDepth 20000 in
set_option maxHeartbeats 4000000 in
theorem often_r (s : ByteArray) (hs : s.size ≤ 1000000) (op s0 s1 s2 s3 mn mx : Int) (k : Nd) (ks : List Nd) (hk : FromOk s k) (hmn : 0 ≤ mn ∧ mn ≤ 1000) (hmx0 : -1 ≤ mx) (hmx : mx ≤ 1000) (w : World) (v : Value) (h : Nat) (P : Nat → Bool)
    (hn : IsN w (.mk op s0 s1 s2 s3 mn mx (k :: ks)) v) (hP : ∀ i, P i = true → i ≤ s.size) (hr : Blk w h 4 (arB s.size P)) :
    Calls Try.prog 42 #[v, .string s, pv s.size h] w fun e w' => ∃ g, e = .returned (pv s.size g) ∧ w.heap.size ≤ g ∧ Blk w' g 4 (arB s.size (stpR s mn mx (k :: ks) P)) ∧ Below w.heap.size w w' := by
  obtain ⟨A, c, rfl, hc, hlen, hK⟩ := hn
  obtain ⟨M, rfl⟩ := Int.eq_ofNat_of_zero_le hmn.1
  obtain ⟨ad, A', c', hA, hN0, q0, q1, q2, q3, q4, q5, q6, q7⟩ := kid_at hK 0 (by simp [kids_mk])
  simp only [kids_mk, List.getElem_cons_zero, Nat.zero_mul, add0] at hN0 q0 q1 q2 q3 q4 q5 q6 q7
  subst hA
  simp only [op_mk, s0_mk, s1_mk, s2_mk, s3_mk, mn_mk, mx_mk, kids_mk] at hc hlen ⊢
  obtain ⟨n, hn⟩ : ∃ n, (k :: ks).length = n + 1 := ⟨ks.length, rfl⟩
  rw [hn]
  have hf : Lin s.size (stp s k) := stp_lin s k
  have hbd := Lib.hid (fun t => itr_bd hf hP t)
  have hst : stpR s (M : Int) mx (k :: ks) P = upTo (stp s k) (if mx < 0 then s.size + 1 else (mx - (M : Int)).toNat) (itr (stp s k) M P) := by unfold stpR; rfl
  rw [hst]
  have hcell := Lib.hid (fun (w1 : World) (hb : Below w.heap.size w w1) => And.intro (hN0.below hb) (And.intro (pw_cell_below hb q0) (And.intro (pw_cell_below hb q1) (And.intro (pw_cell_below hb q2) (And.intro (pw_cell_below hb q3) (And.intro (pw_cell_below hb q4) (And.intro (pw_cell_below hb q5) (And.intro (pw_cell_below hb q6) (pw_cell_below hb q7)))))))))
  have hstep := Lib.hid (fun w v h P (a : IsN w k v) b c => hk w v h P a b c)
  have hei := Lib.hid (fun g h P Q w hg hh => either_c s.size hs g h P Q w hg hh)
  have hrH := Lib.hid hr
  have hhlt := hr.lt
  have hM : M ≤ 1000 := by omega
  have hbd2 := Lib.hid (fun t => itr_bd hf (itr_bd hf hP M) t)
  clear hk hr hP hst hN0 q0 q1 q2 q3 q4 q5 q6 q7 hK hn hf hc hlen
  generalize stp s k = f at *
  obtain ⟨P0, hP0⟩ : ∃ P0, P0 = itr f M P := ⟨_, rfl⟩
  rw [← hP0] at hbd2 ⊢
  have hP0H := Lib.hid hP0
  clear hP0
  obtain ⟨B, hBd⟩ : ∃ B, B = if mx < 0 then s.size + 1 else (mx - (M : Int)).toNat := ⟨_, rfl⟩
  rw [← hBd]
  have hBnegH : Hid (mx < 0 → B = s.size + 1) := Lib.hid (fun h => by rw [hBd, if_pos h])
  have hBposH : Hid (0 ≤ mx → B = (mx - (M : Int)).toNat) := Lib.hid (fun h => by rw [hBd, if_neg (by omega)])
  clear hBd
  obtain ⟨m, hm⟩ : ∃ m, m = k.kids.length := ⟨_, rfl⟩
  rw [← hm] at hcell
  clear hm
  show Calls Try.prog 42 #[.agg (boxC op s0 s1 s2 s3 (M : Int) mx (.slice (some ad) (n + 1) c)), .string s, pv s.size h] w _
  go_enter Try.func42, Try.ntmps42
  have hbx := Lib.hid (Blk.new w 28 (boxC op s0 s1 s2 s3 (M : Int) mx (.slice (some ad) (n + 1) c)))
  have hB0 := Lib.hid (below_alloc (Below.refl w.heap.size w) (.cells (boxC op s0 s1 s2 s3 (M : Int) mx (.slice (some ad) (n + 1) c)) 28))
  have hr0 := Lib.hid (hrH.out.below hB0.out hhlt)
  go_wp2_with (go_at_call 41; refine (hei.out h h P P _ hr0.out hr0.out).mono ?_; rintro e W1 ⟨g0, rfl, hg0, hO0, hbb⟩; have hX1 := Lib.hid (hbx.out.below hbb hbx.out.lt); have hB1 := Lib.hid (below_then hB0.out hB0.out.size hbb); have hR1 := Lib.hid (hO0.eqB (Q := itr f 0 P) (fun j _ => by simp [orP, itr])); have hgw0 : w.heap.size ≤ g0 := Nat.le_trans hB0.out.size hg0; clear hbb hO0 hg0)
  clear hbx hB0 hr0
  go_loopw [7, 8] (fun pp tt wr => ∃ t g : Nat, t ≤ M ∧ w.heap.size ≤ g ∧ tt = .int .i64 t ∧ pp = pv s.size g ∧ Hid (Blk wr g 4 (arB s.size (itr f t P))) ∧ Hid (Below w.heap.size w wr) ∧ Hid (Blk wr w.heap.size 28 (boxC op s0 s1 s2 s3 (M : Int) mx (.slice (some ad) (n + 1) c)))) (fun _ tt _ => M - (intOf tt).toNat)
  case atStart => exact ⟨0, g0, by omega, hgw0, rfl, rfl, hR1, hB1, hX1⟩
  case round =>
    clear hR1 hB1 hX1
    obtain ⟨t, g, ht, hgw, rfl, rfl, hR, hB, hX⟩ := hrel
    obtain ⟨wo, rfl⟩ : ∃ wo : World, wo = wr := ⟨_, rfl⟩
    have hc5 : wo.cell? ⟨w.heap.size, 5, none⟩ = some (.int .i64 (M : Int)) := hX.out.cell 5
    have hc6 : wo.cell? ⟨w.heap.size, 6, none⟩ = some (.int .i64 mx) := hX.out.cell 6
    have hc7 : wo.cell? ⟨w.heap.size, 7, none⟩ = some (.slice (some ad) (n + 1) c) := hX.out.cell 7
    by_cases hlt : t < M
    · have hd : decide ((t : Int) < (M : Int)) = true := decide_eq_true (by omega)
      obtain ⟨hN0, q0, q1, q2, q3, q4, q5, q6, q7⟩ := hcell.out _ hB.out
      have hN0H := Lib.hid hN0
      clear hN0
      have hi0 : (0 : Int) < ((n + 1 : Nat) : Int) := by omega
      have hi1 : 0 < n + 1 := by omega
      go_wp2_with (go_at_call 39; refine (hstep.out _ _ g _ hN0H.out (hbd.out t) hR.out).mono ?_; rintro e w2 ⟨g2, rfl, hg2, hR2, hB2⟩; have hR2H := Lib.hid hR2; have hX2 := Lib.hid (hX.out.below hB2 hX.out.lt); have hB2H := Lib.hid (below_then hB.out hB.out.size hB2); have hgw2 : w.heap.size ≤ g2 := Nat.le_trans hB.out.size hg2; clear hR2 hB2 hg2)
      go_roundw
      case rel => exact ⟨t + 1, g2, by omega, hgw2, by go_num, rfl, by rw [itr_succ]; exact hR2H, hB2H, hX2⟩
      case measure => simp [intOf]; omega
    · have hd : decide ((t : Int) < (M : Int)) = false := decide_eq_false (by omega)
      obtain rfl : M = t := by omega
      have hE0 : Hid (Blk wo g 4 (arB s.size (upTo f 0 P0))) := Lib.hid (hR.out.eqB (fun j _ => by simp [upTo, hP0H.out]))
      have hp0 : Hid (Blk wo g 4 (arB s.size (itr f 0 P0))) := by rw [hP0H.out]; exact hR
      clear hR
      by_cases hneg : mx < 0
      · have hn1 : decide (mx < 0) = true := decide_eq_true hneg
        have hBz : Hid (∀ t : Nat, (t : Int) < (s.size : Int) + 1 ↔ t < B) := Lib.hid (fun t => by have := hBnegH.out hneg; omega)
        have hzz : (s.size : Int) + 1 = ((s.size + 1 : Nat) : Int) := by omega
        have hgen : ∃ z : Int, z = (s.size : Int) + 1 := ⟨_, rfl⟩
        have hnegH := Lib.hid hneg
        clear hneg hzz hgen
        go_wp2
        go_loopw [7, 9, 11] (fun pp oo tt wr => ∃ t gp go : Nat, t ≤ B ∧ w.heap.size ≤ gp ∧ w.heap.size ≤ go ∧ tt = .int .i64 t ∧ pp = pv s.size gp ∧ oo = pv s.size go ∧ Hid (Blk wr gp 4 (arB s.size (itr f t P0))) ∧ Hid (Blk wr go 4 (arB s.size (upTo f t P0))) ∧ Hid (Below w.heap.size w wr) ∧ Hid (Blk wr w.heap.size 28 (boxC op s0 s1 s2 s3 (M : Int) mx (.slice (some ad) (n + 1) c)))) (fun _ _ tt _ => B - (intOf tt).toNat)
        case atStart => exact ⟨0, g, g, by omega, hgw, hgw, rfl, rfl, rfl, hp0, hE0, hB, hX⟩
        case round =>
          clear hp0 hE0 hB hX hc5 hc6 hc7
          obtain ⟨t, gp, go, htB, hgpw, hgow, rfl, rfl, rfl, hR, hO, hB, hX⟩ := hrel
          obtain ⟨wo2, rfl⟩ : ∃ wo2 : World, wo2 = wr := ⟨_, rfl⟩
          have hc7 : wo2.cell? ⟨w.heap.size, 7, none⟩ = some (.slice (some ad) (n + 1) c) := hX.out.cell 7
          by_cases hlt2 : t < B
          · have hd2 : decide ((t : Int) < (s.size : Int) + 1) = true := decide_eq_true ((hBz.out t).2 hlt2)
            have hd3 : (t : Int) < (s.size : Int) + 1 := (hBz.out t).2 hlt2
            obtain ⟨hN0, q0, q1, q2, q3, q4, q5, q6, q7⟩ := hcell.out _ hB.out
            have hN0H := Lib.hid hN0
            clear hN0
            have hi0 : (0 : Int) < ((n + 1 : Nat) : Int) := by omega
            have hi1 : 0 < n + 1 := by omega
            have hgol := hO.out.lt
            go_wp2_with (first
              | (go_at_call 39; refine (hstep.out _ _ gp _ hN0H.out (hbd2.out t) hR.out).mono ?_; rintro e w2 ⟨g2, rfl, hg2, hR2, hB2⟩; have hR2H := Lib.hid hR2; have hO2H := Lib.hid (hO.out.below hB2 hgol); have hX2 := Lib.hid (hX.out.below hB2 hX.out.lt); have hB2H := Lib.hid (below_then hB.out hB.out.size hB2); have hgw2 : w.heap.size ≤ g2 := Nat.le_trans hB.out.size hg2; clear hR2 hB2 hg2)
              | (go_at_call 41; refine (hei.out go g2 _ _ _ hO2H.out hR2H.out).mono ?_; rintro e w3 ⟨g3, rfl, hg3, hO3, hB3⟩; have hR3 := Lib.hid (hR2H.out.below hB3 hR2H.out.lt); have hO3H := Lib.hid (hO3.eqB (Q := upTo f (t + 1) P0) (fun j _ => (upTo_succ f t P0 j).symm)); have hX3 := Lib.hid (hX2.out.below hB3 hX2.out.lt); have hB3H := Lib.hid (below_then hB2H.out hB2H.out.size hB3); have hgw3 : w.heap.size ≤ g3 := Nat.le_trans hB2H.out.size hg3; clear hB3 hg3 hO3))
            go_roundw
            case rel => exact ⟨t + 1, g2, g3, by omega, hgw2, hgw3, by go_num, rfl, rfl, by rw [itr_succ]; exact hR3, hO3H, hB3H, hX3⟩
            case measure => simp [intOf]; omega
          · have hd2 : decide ((t : Int) < (s.size : Int) + 1) = false := decide_eq_false (fun h => hlt2 ((hBz.out t).1 h))
            have hd3 : ¬ (t : Int) < (s.size : Int) + 1 := fun h => hlt2 ((hBz.out t).1 h)
            obtain rfl : B = t := by omega
            go_wp2
            go_ret
            exact ⟨go, rfl, hgow, hO.out, hB.out⟩
      · have hn1 : decide (mx < 0) = false := decide_eq_false hneg
        have hBz : Hid (∀ t : Nat, (t : Int) < mx - (M : Int) ↔ t < B) := Lib.hid (fun t => by have := hBposH.out (by omega); omega)
        have hnegH := Lib.hid hneg
        go_wp2
        go_loopw [7, 9, 11] (fun pp oo tt wr => ∃ t gp go : Nat, t ≤ B ∧ w.heap.size ≤ gp ∧ w.heap.size ≤ go ∧ tt = .int .i64 t ∧ pp = pv s.size gp ∧ oo = pv s.size go ∧ Hid (Blk wr gp 4 (arB s.size (itr f t P0))) ∧ Hid (Blk wr go 4 (arB s.size (upTo f t P0))) ∧ Hid (Below w.heap.size w wr) ∧ Hid (Blk wr w.heap.size 28 (boxC op s0 s1 s2 s3 (M : Int) mx (.slice (some ad) (n + 1) c)))) (fun _ _ tt _ => B - (intOf tt).toNat)
        case atStart => exact ⟨0, g, g, by omega, hgw, hgw, rfl, rfl, rfl, hp0, hE0, hB, hX⟩
        case round =>
          clear hp0 hE0 hB hX hc5 hc6 hc7
          obtain ⟨t, gp, go, htB, hgpw, hgow, rfl, rfl, rfl, hR, hO, hB, hX⟩ := hrel
          obtain ⟨wo2, rfl⟩ : ∃ wo2 : World, wo2 = wr := ⟨_, rfl⟩
          have hc7 : wo2.cell? ⟨w.heap.size, 7, none⟩ = some (.slice (some ad) (n + 1) c) := hX.out.cell 7
          by_cases hlt2 : t < B
          · have hd2 : decide ((t : Int) < mx - (M : Int)) = true := decide_eq_true ((hBz.out t).2 hlt2)
            have hd3 : (t : Int) < mx - (M : Int) := (hBz.out t).2 hlt2
            obtain ⟨hN0, q0, q1, q2, q3, q4, q5, q6, q7⟩ := hcell.out _ hB.out
            have hN0H := Lib.hid hN0
            clear hN0
            have hi0 : (0 : Int) < ((n + 1 : Nat) : Int) := by omega
            have hi1 : 0 < n + 1 := by omega
            have hgol := hO.out.lt
            go_wp2_with (first
              | (go_at_call 39; refine (hstep.out _ _ gp _ hN0H.out (hbd2.out t) hR.out).mono ?_; rintro e w2 ⟨g2, rfl, hg2, hR2, hB2⟩; have hR2H := Lib.hid hR2; have hO2H := Lib.hid (hO.out.below hB2 hgol); have hX2 := Lib.hid (hX.out.below hB2 hX.out.lt); have hB2H := Lib.hid (below_then hB.out hB.out.size hB2); have hgw2 : w.heap.size ≤ g2 := Nat.le_trans hB.out.size hg2; clear hR2 hB2 hg2)
              | (go_at_call 41; refine (hei.out go g2 _ _ _ hO2H.out hR2H.out).mono ?_; rintro e w3 ⟨g3, rfl, hg3, hO3, hB3⟩; have hR3 := Lib.hid (hR2H.out.below hB3 hR2H.out.lt); have hO3H := Lib.hid (hO3.eqB (Q := upTo f (t + 1) P0) (fun j _ => (upTo_succ f t P0 j).symm)); have hX3 := Lib.hid (hX2.out.below hB3 hX2.out.lt); have hB3H := Lib.hid (below_then hB2H.out hB2H.out.size hB3); have hgw3 : w.heap.size ≤ g3 := Nat.le_trans hB2H.out.size hg3; clear hB3 hg3 hO3))
            go_roundw
            case rel => exact ⟨t + 1, g2, g3, by omega, hgw2, hgw3, by go_num, rfl, rfl, by rw [itr_succ]; exact hR3, hO3H, hB3H, hX3⟩
            case measure => simp [intOf]; omega
          · have hd2 : decide ((t : Int) < mx - (M : Int)) = false := decide_eq_false (fun h => hlt2 ((hBz.out t).1 h))
            have hd3 : ¬ (t : Int) < mx - (M : Int) := fun h => hlt2 ((hBz.out t).1 h)
            obtain rfl : B = t := by omega
            go_wp2
            go_ret
            exact ⟨go, rfl, hgow, hO.out, hB.out⟩
end Go.Proofs.Ytimhiacjoplkeaa
