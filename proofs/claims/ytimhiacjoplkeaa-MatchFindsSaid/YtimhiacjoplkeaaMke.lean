/- The reference's Make: some well-formed pattern comes of any bytes. Own text (printed by wip/c04/gen_mk3.py). -/
import Derived.Test.YtimhiacjoplkeaaMkb
namespace Go.Proofs.Ytimhiacjoplkeaa
open Go.RowKit Go.Proofs.Ytimhiacjoplkeaa.P Go.Proofs.YtimhiacjoplkeaaW.PrintWords Go.Proofs.YtimhiacjoplkeaaW.PrintLast
set_option linter.unusedVariables false
set_option linter.unusedSimpArgs false
set_option maxRecDepth 20000 in
set_option maxHeartbeats 4000000 in
theorem make_c (s : ByteArray) (hs : s.size ≤ 1000) (w : World) :
    Calls Try.prog 8 #[.string s] w fun e w' => ∃ n v, e = .returned v ∧ Gd n ∧ IsN w' n v ∧ Below w.heap.size w w' := by
  have hwi := Lib.hid (fun (s0 s1 s2 s3 : Int) (b : Nat) (hb : b < 256) w => with_c s0 s1 s2 s3 b hb w)
  have hse := Lib.hid (show ∀ (s0 s1 s2 s3 : Int) (w : World), Calls Try.prog 23 #[setV s0 s1 s2 s3] w fun e w' => e = .returned (.agg #[.int .i64 0, .int .u64 s0, .int .u64 s1, .int .u64 s2, .int .u64 s3, .int .i64 0, .int .i64 0, .slice none 0 0]) ∧ Below w.heap.size w w' from fun s0 s1 s2 s3 w => set_c s0 s1 s2 s3 w)
  have hma := Lib.hid (show ∀ (op : Int) (A : Option Addr) (n c : Nat) (ks : List Nd) (w : World), Calls Try.prog 15 #[.int .i64 op, .slice A n c] w fun e w' => e = .returned (.agg #[.int .i64 op, .int .u64 0, .int .u64 0, .int .u64 0, .int .u64 0, .int .i64 0, .int .i64 0, .slice A n c]) ∧ Below w.heap.size w w' from fun op A n c ks w => many_c op A n c ks w)
  have hra := Lib.hid (show ∀ (b : Nat) (hab : 97 ≤ b) (hb : b < 256) (w : World), Calls Try.prog 25 #[.int .u8 97, .int .u8 (b : Int)] w fun e w' => e = .returned (setV (rgk 0 97 (b - 96)) (rgk 1 97 (b - 96)) (rgk 2 97 (b - 96)) (rgk 3 97 (b - 96))) ∧ Below w.heap.size w w' from fun b hab hb w => by have h := range_c 97 b hab hb w; rw [show b + 1 - 97 = b - 96 by omega] at h; exact h)
  have hre := Lib.hid (fun n A m c lo hi w => rep_m n A m c lo hi w)
  go_enter Try.func8, Try.ntmps8
  go_wp2
  have hZ0 := Lib.hid (Blk.new w 28 #[.int .i64 0, .int .u64 0, .int .u64 0, .int .u64 0, .int .u64 0, .int .i64 0, .int .i64 0, .slice none 0 0])
  have hB0 := Lib.hid (below_alloc (Below.refl w.heap.size w) (.cells #[.int .i64 0, .int .u64 0, .int .u64 0, .int .u64 0, .int .u64 0, .int .i64 0, .int .i64 0, .slice none 0 0] 28))
  generalize hW0 : w.alloc (.cells #[.int .i64 0, .int .u64 0, .int .u64 0, .int .u64 0, .int .u64 0, .int .i64 0, .int .i64 0, .slice none 0 0] 28) = W0 at *
  clear hW0
  go_loopw [3, 4] (fun ll ii wr => ∃ (i : Nat) (l : List Nd), i ≤ s.size ∧ ii = .int .i64 i ∧ l.length ≤ i ∧ Hid (MkAt W0 wr ll l)) (fun _ ii _ => s.size - (intOf ii).toNat)
  case atStart => exact ⟨0, [], by omega, rfl, by simp, Lib.hid ⟨Kd.R_nil _ _ _ _ _, Below.refl _ _, fun x hx => by simp at hx⟩⟩
  case round =>
    obtain ⟨i, l, hi, rfl, hll, hM⟩ := hrel
    by_cases hlt : i < s.size
    · have hd : decide ((i : Int) < (s.size : Int)) = true := decide_eq_true (by omega)
      have hd0 : (0 : Int) ≤ (i : Int) := by omega
      have hd1 : (i : Int) < (s.size : Int) := by omega
      have hx256 : (s[i]'hlt).toNat < 256 := UInt8.toNat_lt _
      generalize hxx : (s[i]'hlt).toNat = x at *
      have hxH := Lib.hid hxx
      clear hxx
      obtain ⟨A3, c3, e3⟩ := Kd.R_slice hM.out.r
      subst e3
      have hy : 97 + x / 8 % 3 < 256 := by omega
      have hby := Lib.hid (show (97 + (x : Int) / 8 % 3) = ((97 + x / 8 % 3 : Nat) : Int) by omega)
      obtain ⟨y, hyy⟩ : ∃ y, y = 97 + x / 8 % 3 := ⟨_, rfl⟩
      rw [← hyy] at hby hy
      have hyl : 97 ≤ y := by omega
      have hyH := Lib.hid hyy
      clear hyy
      have hlen := Lib.hid (Kd.R_reads' hM.out.r).2.1
      have hxs := hxH.out
      go_upto_block 2 with (first
        | (go_at_call 24; rw [hby.out]; refine (hwi.out 0 0 0 0 y hy _).mono ?_; rintro e w1 ⟨rfl, hB1⟩; have hM1 := Lib.hid (hM.out.below hB1); clear hB1)
        | (go_at_call 23; refine (hse.out _ _ _ _ _).mono ?_; rintro e w2 ⟨rfl, hB2⟩; have hM2 := Lib.hid (hM1.out.below hB2); clear hB2))
      have hM3 := Lib.hid (hM2.out.below (below_alloc (Below.refl _ _) (.cells #[.int .i64 0, .int .u64 (wth 0 0 y), .int .u64 (wth 1 0 y), .int .u64 (wth 2 0 y), .int .u64 (wth 3 0 y), .int .i64 0, .int .i64 0, .slice none 0 0] 28)))
      have hL3 := Lib.hid (Blk.new w2 28 #[.int .i64 0, .int .u64 (wth 0 0 y), .int .u64 (wth 1 0 y), .int .u64 (wth 2 0 y), .int .u64 (wth 3 0 y), .int .i64 0, .int .i64 0, .slice none 0 0])
      have hq := Lib.hid (show U64 (wth 0 0 y) ∧ U64 (wth 1 0 y) ∧ U64 (wth 2 0 y) ∧ U64 (wth 3 0 y) from ⟨u64_wth _ _ _ u64_0, u64_wth _ _ _ u64_0, u64_wth _ _ _ u64_0, u64_wth _ _ _ u64_0⟩)
      generalize wth 0 0 y = q0 at *
      generalize wth 1 0 y = q1 at *
      generalize wth 2 0 y = q2 at *
      generalize wth 3 0 y = q3 at *
      generalize w2.alloc (.cells #[.int .i64 0, .int .u64 q0, .int .u64 q1, .int .u64 q2, .int .u64 q3, .int .i64 0, .int .i64 0, .slice none 0 0] 28) = V at *
      generalize w2.heap.size = bl at *
      clear hM hM1 hM2
      have hll2 : l.length ≤ 1000 := by omega
      have hl1 : l.length + 1 ≤ 2000 := by omega
      refine wp_block ?_
      refine mkE0 _ _ _ _ _ _ _ _ _ _ _ _ _ _ _ _ _ _ _ _ _ _ _ _ _ _ _ _ _ _ _ _ _ _ _ _ _ _ _ _ _ _ _ _ _ _ _ _ _ _ _ _ _ _ _ _ _ _ _ _ _ _ _ _ _ _ _ _ _ _ _ _ _ _ _ _ _ _ _ _ _ _ _ _ _ _ _ _ _ _ _ _ _ _ _ _ _ _ _ _ _ _ _ _ _ _ _ _ _ _ _ _ _ _ _ _ _ _ _ _ _ _ _ _ _ _ _ _ _ _ _ _ _ _ _ _ _ _ _ _ _ _ _ _ _ _ _ _ _ _ _ _ _ _ _ _ _ _ _ _ _ _ _ _ _ _ _ _ _ _ _ _ _ _ _ _ _ _ _ _ _ _ _ _ _ _ _ _ _ _ W0 V A3 c3 i x y bl l q0 q1 q2 q3 hll2 hx256 hy hyl hby hlen hM3 hL3 hq _ (fun ch a N v w' h => by cases N <;> exact h) (fun a' w' hE => ?_)
      clear hM3 hL3 hq hby hlen
      unfold EndS at hE
      obtain ⟨u3, hE⟩ := hE
      obtain ⟨u5, hE⟩ := hE
      obtain ⟨u6, hE⟩ := hE
      obtain ⟨u7, hE⟩ := hE
      obtain ⟨u8, hE⟩ := hE
      obtain ⟨u9, hE⟩ := hE
      obtain ⟨u10, hE⟩ := hE
      obtain ⟨u11, hE⟩ := hE
      obtain ⟨u12, hE⟩ := hE
      obtain ⟨u13, hE⟩ := hE
      obtain ⟨u14, hE⟩ := hE
      obtain ⟨u15, hE⟩ := hE
      obtain ⟨u16, hE⟩ := hE
      obtain ⟨u17, hE⟩ := hE
      obtain ⟨u18, hE⟩ := hE
      obtain ⟨u19, hE⟩ := hE
      obtain ⟨u20, hE⟩ := hE
      obtain ⟨u21, hE⟩ := hE
      obtain ⟨u22, hE⟩ := hE
      obtain ⟨u23, hE⟩ := hE
      obtain ⟨u24, hE⟩ := hE
      obtain ⟨u25, hE⟩ := hE
      obtain ⟨u26, hE⟩ := hE
      obtain ⟨u27, hE⟩ := hE
      obtain ⟨u28, hE⟩ := hE
      obtain ⟨u29, hE⟩ := hE
      obtain ⟨u30, hE⟩ := hE
      obtain ⟨u31, hE⟩ := hE
      obtain ⟨u32, hE⟩ := hE
      obtain ⟨u33, hE⟩ := hE
      obtain ⟨u34, hE⟩ := hE
      obtain ⟨u35, hE⟩ := hE
      obtain ⟨u36, hE⟩ := hE
      obtain ⟨u37, hE⟩ := hE
      obtain ⟨u38, hE⟩ := hE
      obtain ⟨u39, hE⟩ := hE
      obtain ⟨u40, hE⟩ := hE
      obtain ⟨u41, hE⟩ := hE
      obtain ⟨u42, hE⟩ := hE
      obtain ⟨u43, hE⟩ := hE
      obtain ⟨u44, hE⟩ := hE
      obtain ⟨u45, hE⟩ := hE
      obtain ⟨u46, hE⟩ := hE
      obtain ⟨u47, hE⟩ := hE
      obtain ⟨u48, hE⟩ := hE
      obtain ⟨u49, hE⟩ := hE
      obtain ⟨u50, hE⟩ := hE
      obtain ⟨u51, hE⟩ := hE
      obtain ⟨u52, hE⟩ := hE
      obtain ⟨u53, hE⟩ := hE
      obtain ⟨u54, hE⟩ := hE
      obtain ⟨u55, hE⟩ := hE
      obtain ⟨u56, hE⟩ := hE
      obtain ⟨u57, hE⟩ := hE
      obtain ⟨u58, hE⟩ := hE
      obtain ⟨u59, hE⟩ := hE
      obtain ⟨u60, hE⟩ := hE
      obtain ⟨u61, hE⟩ := hE
      obtain ⟨u62, hE⟩ := hE
      obtain ⟨u63, hE⟩ := hE
      obtain ⟨u64, hE⟩ := hE
      obtain ⟨u65, hE⟩ := hE
      obtain ⟨u66, hE⟩ := hE
      obtain ⟨u67, hE⟩ := hE
      obtain ⟨u68, hE⟩ := hE
      obtain ⟨u69, hE⟩ := hE
      obtain ⟨u70, hE⟩ := hE
      obtain ⟨u71, hE⟩ := hE
      obtain ⟨u72, hE⟩ := hE
      obtain ⟨u73, hE⟩ := hE
      obtain ⟨u74, hE⟩ := hE
      obtain ⟨u75, hE⟩ := hE
      obtain ⟨u76, hE⟩ := hE
      obtain ⟨u77, hE⟩ := hE
      obtain ⟨u78, hE⟩ := hE
      obtain ⟨u79, hE⟩ := hE
      obtain ⟨u80, hE⟩ := hE
      obtain ⟨u81, hE⟩ := hE
      obtain ⟨u82, hE⟩ := hE
      obtain ⟨u83, hE⟩ := hE
      obtain ⟨u84, hE⟩ := hE
      obtain ⟨u85, hE⟩ := hE
      obtain ⟨u86, hE⟩ := hE
      obtain ⟨u87, hE⟩ := hE
      obtain ⟨u88, hE⟩ := hE
      obtain ⟨u89, hE⟩ := hE
      obtain ⟨u90, hE⟩ := hE
      obtain ⟨u91, hE⟩ := hE
      obtain ⟨u92, hE⟩ := hE
      obtain ⟨u93, hE⟩ := hE
      obtain ⟨u94, hE⟩ := hE
      obtain ⟨u95, hE⟩ := hE
      obtain ⟨u96, hE⟩ := hE
      obtain ⟨u97, hE⟩ := hE
      obtain ⟨u98, hE⟩ := hE
      obtain ⟨u99, hE⟩ := hE
      obtain ⟨u100, hE⟩ := hE
      obtain ⟨u101, hE⟩ := hE
      obtain ⟨u102, hE⟩ := hE
      obtain ⟨u103, hE⟩ := hE
      obtain ⟨u104, hE⟩ := hE
      obtain ⟨u105, hE⟩ := hE
      obtain ⟨u106, hE⟩ := hE
      obtain ⟨u107, hE⟩ := hE
      obtain ⟨u108, hE⟩ := hE
      obtain ⟨u109, hE⟩ := hE
      obtain ⟨u110, hE⟩ := hE
      obtain ⟨u111, hE⟩ := hE
      obtain ⟨u112, hE⟩ := hE
      obtain ⟨u113, hE⟩ := hE
      obtain ⟨u114, hE⟩ := hE
      obtain ⟨u115, hE⟩ := hE
      obtain ⟨u116, hE⟩ := hE
      obtain ⟨u117, hE⟩ := hE
      obtain ⟨u118, hE⟩ := hE
      obtain ⟨u119, hE⟩ := hE
      obtain ⟨u120, hE⟩ := hE
      obtain ⟨u121, hE⟩ := hE
      obtain ⟨u122, hE⟩ := hE
      obtain ⟨u123, hE⟩ := hE
      obtain ⟨u124, hE⟩ := hE
      obtain ⟨u125, hE⟩ := hE
      obtain ⟨u126, hE⟩ := hE
      obtain ⟨u127, hE⟩ := hE
      obtain ⟨u128, hE⟩ := hE
      obtain ⟨u129, hE⟩ := hE
      obtain ⟨u130, hE⟩ := hE
      obtain ⟨u131, hE⟩ := hE
      obtain ⟨u132, hE⟩ := hE
      obtain ⟨u133, hE⟩ := hE
      obtain ⟨u134, hE⟩ := hE
      obtain ⟨u135, hE⟩ := hE
      obtain ⟨u136, hE⟩ := hE
      obtain ⟨u137, hE⟩ := hE
      obtain ⟨u138, hE⟩ := hE
      obtain ⟨u139, hE⟩ := hE
      obtain ⟨u140, hE⟩ := hE
      obtain ⟨u141, hE⟩ := hE
      obtain ⟨u142, hE⟩ := hE
      obtain ⟨u143, hE⟩ := hE
      obtain ⟨u144, hE⟩ := hE
      obtain ⟨u145, hE⟩ := hE
      obtain ⟨u146, hE⟩ := hE
      obtain ⟨u147, hE⟩ := hE
      obtain ⟨u148, hE⟩ := hE
      obtain ⟨u149, hE⟩ := hE
      obtain ⟨u150, hE⟩ := hE
      obtain ⟨u151, hE⟩ := hE
      obtain ⟨u152, hE⟩ := hE
      obtain ⟨u153, hE⟩ := hE
      obtain ⟨u154, hE⟩ := hE
      obtain ⟨u155, hE⟩ := hE
      obtain ⟨u156, hE⟩ := hE
      obtain ⟨u157, hE⟩ := hE
      obtain ⟨u158, hE⟩ := hE
      obtain ⟨u159, hE⟩ := hE
      obtain ⟨u160, hE⟩ := hE
      obtain ⟨u161, hE⟩ := hE
      obtain ⟨u162, hE⟩ := hE
      obtain ⟨u163, hE⟩ := hE
      obtain ⟨u164, hE⟩ := hE
      obtain ⟨u165, hE⟩ := hE
      obtain ⟨u166, hE⟩ := hE
      obtain ⟨u167, hE⟩ := hE
      obtain ⟨u168, hE⟩ := hE
      obtain ⟨u169, hE⟩ := hE
      obtain ⟨u170, hE⟩ := hE
      obtain ⟨u171, hE⟩ := hE
      obtain ⟨u172, hE⟩ := hE
      obtain ⟨u173, hE⟩ := hE
      obtain ⟨u174, hE⟩ := hE
      obtain ⟨u175, hE⟩ := hE
      obtain ⟨u176, hE⟩ := hE
      obtain ⟨u177, hE⟩ := hE
      obtain ⟨u178, hE⟩ := hE
      obtain ⟨u179, hE⟩ := hE
      obtain ⟨u180, hE⟩ := hE
      obtain ⟨u181, hE⟩ := hE
      obtain ⟨u182, hE⟩ := hE
      obtain ⟨u183, hE⟩ := hE
      obtain ⟨u184, hE⟩ := hE
      obtain ⟨u185, hE⟩ := hE
      obtain ⟨u186, hE⟩ := hE
      obtain ⟨⟨l', hl', hMN⟩, rfl⟩ := hE
      go_wp2_with (fail)
      all_goals go_roundw
      case rel => exact ⟨i + 1, l', by omega, by go_num, by omega, hMN⟩
      case measure => simp [intOf]; omega
    · have hd : decide ((i : Int) < (s.size : Int)) = false := decide_eq_false (by omega)
      have hnd : ¬ i < s.size := hlt
      have hll2 : l.length ≤ 1000 := by omega
      have hllH := Lib.hid (show l.length ≤ 1000000 by omega)
      obtain ⟨A3, c3, e3⟩ := Kd.R_slice hM.out.r
      subst e3
      have hwb : w.heap.size < W0.heap.size := hZ0.out.lt
      have hZ := Lib.hid (hZ0.out.below hM.out.b hwb)
      have hBw := Lib.hid (below_then hB0.out hB0.out.size hM.out.b)
      have e0 := hZ.out.cell 0
      have e1 := hZ.out.cell 1
      have e2 := hZ.out.cell 2
      have e3 := hZ.out.cell 3
      have e4 := hZ.out.cell 4
      have e5 := hZ.out.cell 5
      have e6 := hZ.out.cell 6
      have e7 := hZ.out.cell 7
      have f0 := hZ.out.frozen 0
      have f1 := hZ.out.frozen 1
      have f2 := hZ.out.frozen 2
      have f3 := hZ.out.frozen 3
      have f4 := hZ.out.frozen 4
      have f5 := hZ.out.frozen 5
      have f6 := hZ.out.frozen 6
      have f7 := hZ.out.frozen 7
      simp only [List.getElem?_toArray, List.getElem?_cons_zero, List.getElem?_cons_succ] at e0 e1 e2 e3 e4 e5 e6 e7
      by_cases h1 : l.length = 1
      · have h1d : decide (l.length = 1) = true := decide_eq_true h1
        have h1e : (l.length : Int) = 1 := by omega
        have h1f : decide ((l.length : Int) = 1) = true := decide_eq_true h1e
        obtain ⟨ad, g, A', c', k', z, hA, had, hgl, hz, hlz, hNz, d0, d1, d2, d3, d4, d5, d6, d7⟩ := hM.out.elem (m := 0) (by omega)
        subst hA
        rw [Nat.zero_mul, add0] at d0 d1 d2 d3 d4 d5 d6 d7
        have hNzH := Lib.hid hNz
        have hgz := Lib.hid (hM.out.g z hz)
        clear had hNz hz
        go_wp2
        refine bodyPost_ret (results_cell_row rfl _ _ w.heap.size 28 _ (0, 0) _ rfl (set8 hZ.out _ _ _ _ _ _ _ _) Try.underlying28 rfl rfl) rfl ?_
        exact ⟨z, _, rfl, hgz.out, IsN_of_NM (NM_put8 hNzH.out hwb _ _ _ _ _ _ _ _), below8 hBw.out (Nat.le_refl _) _ _ _ _ _ _ _ _⟩
      · have h1d : decide (l.length = 1) = false := decide_eq_false h1
        have h1e : ¬ (l.length : Int) = 1 := by omega
        have h1f : decide ((l.length : Int) = 1) = false := decide_eq_false h1e
        go_wp2_with (go_at_call 15; refine (hma.out 1 A3 l.length c3 l _).mono ?_; rintro e w5 ⟨rfl, hB5⟩; have hM5 := Lib.hid (hM.out.below hB5); have hZ5 := Lib.hid (hZ.out.below hB5 hZ.out.lt); have hBw5 := Lib.hid (below_then hBw.out hBw.out.size hB5); clear hB5; replace e0 := hZ5.out.cell 0; replace e1 := hZ5.out.cell 1; replace e2 := hZ5.out.cell 2; replace e3 := hZ5.out.cell 3; replace e4 := hZ5.out.cell 4; replace e5 := hZ5.out.cell 5; replace e6 := hZ5.out.cell 6; replace e7 := hZ5.out.cell 7; replace f0 := hZ5.out.frozen 0; replace f1 := hZ5.out.frozen 1; replace f2 := hZ5.out.frozen 2; replace f3 := hZ5.out.frozen 3; replace f4 := hZ5.out.frozen 4; replace f5 := hZ5.out.frozen 5; replace f6 := hZ5.out.frozen 6; replace f7 := hZ5.out.frozen 7; simp only [List.getElem?_toArray, List.getElem?_cons_zero, List.getElem?_cons_succ] at e0 e1 e2 e3 e4 e5 e6 e7)
        refine bodyPost_ret (results_cell_row rfl _ _ w.heap.size 28 _ (0, 0) _ rfl (set8 hZ5.out _ _ _ _ _ _ _ _) Try.underlying28 rfl rfl) rfl ?_
        exact ⟨.mk 1 0 0 0 0 0 0 l, _, rfl, (Gd_mk _ _ _ _ _ _ _ _).2 ⟨by simp, ⟨by decide, by decide⟩, ⟨by decide, by decide⟩, ⟨u64_0, u64_0, u64_0, u64_0⟩, hM5.out.g⟩, IsN_put8 hM5.out hllH.out hwb 1 _ _ _ _ _ _ _ _, below8 hBw5.out (Nat.le_refl _) _ _ _ _ _ _ _ _⟩
end Go.Proofs.Ytimhiacjoplkeaa
