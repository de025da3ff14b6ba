/- The reference's Lit: a row of one-byte sets. Own text. -/
import Derived.Test.YtimhiacjoplkeaaMkA
namespace Go.Proofs.Ytimhiacjoplkeaa
open Go.RowKit Go.Proofs.Ytimhiacjoplkeaa.P Go.Proofs.YtimhiacjoplkeaaW.PrintWords Go.Proofs.YtimhiacjoplkeaaW.PrintLast
set_option linter.unusedVariables false
set_option linter.unusedSimpArgs false
/-- The set of one byte. -/
def chN (b : Nat) : Nd := setN (wth 0 0 b) (wth 1 0 b) (wth 2 0 b) (wth 3 0 b)
/-- A text's nodes. -/
def litL (s : ByteArray) (m : Nat) : List Nd := (List.range m).map fun i => chN (byteN s i)
theorem litL_length (s : ByteArray) (m : Nat) : (litL s m).length = m := by simp [litL]
theorem litL_succ (s : ByteArray) (m : Nat) : litL s (m + 1) = litL s m ++ [chN (byteN s m)] := by simp [litL, List.range_succ]
theorem byteN_get (s : ByteArray) (i : Nat) (h : i < s.size) : byteN s i = (s[i]'h).toNat := by
  have h' : i < s.data.toList.length := by simpa using h
  unfold byteN
  rw [List.getD_eq_getElem?_getD, List.getElem?_eq_getElem h']
  rfl
def litN (s : ByteArray) : Nd := .mk 1 0 0 0 0 0 0 (litL s s.size)
set_option maxRecDepth 20000 in
set_option maxHeartbeats 4000000 in
theorem lit_c (s : ByteArray) (hs : s.size ≤ 1000) (w : World) :
    Calls Try.prog 19 #[.string s] w fun e w' => ∃ v, e = .returned v ∧ IsN w' (litN s) v ∧ Below w.heap.size w w' := by
  have hwi := Lib.hid (fun (s0 s1 s2 s3 : Int) (b : Nat) (hb : b < 256) w => with_c s0 s1 s2 s3 b hb w)
  have hse := Lib.hid (show ∀ (s0 s1 s2 s3 : Int) (w : World), Calls Try.prog 23 #[setV s0 s1 s2 s3] w fun e w' => e = .returned (.agg #[.int .i64 0, .int .u64 s0, .int .u64 s1, .int .u64 s2, .int .u64 s3, .int .i64 0, .int .i64 0, .slice none 0 0]) ∧ Below w.heap.size w w' from fun s0 s1 s2 s3 w => set_c s0 s1 s2 s3 w)
  have hma := Lib.hid (show ∀ (op : Int) (A : Option Addr) (n c : Nat) (ks : List Nd) (w : World), Calls Try.prog 15 #[.int .i64 op, .slice A n c] w fun e w' => e = .returned (.agg #[.int .i64 op, .int .u64 0, .int .u64 0, .int .u64 0, .int .u64 0, .int .i64 0, .int .i64 0, .slice A n c]) ∧ Below w.heap.size w w' from fun op A n c ks w => many_c op A n c ks w)
  go_enter Try.func19, Try.ntmps19
  go_wp2
  have hZ0 := Lib.hid (Blk.new w 28 #[.int .i64 0, .int .u64 0, .int .u64 0, .int .u64 0, .int .u64 0, .int .i64 0, .int .i64 0, .slice none 0 0])
  have hB0 := Lib.hid (below_alloc (Below.refl w.heap.size w) (.cells #[.int .i64 0, .int .u64 0, .int .u64 0, .int .u64 0, .int .u64 0, .int .i64 0, .int .i64 0, .slice none 0 0] 28))
  generalize hW0 : w.alloc (.cells #[.int .i64 0, .int .u64 0, .int .u64 0, .int .u64 0, .int .u64 0, .int .i64 0, .int .i64 0, .slice none 0 0] 28) = W0 at *
  clear hW0
  go_loopw [3, 4] (fun ll ii wr => ∃ (i : Nat), i ≤ s.size ∧ ii = .int .i64 i ∧ Hid (MkAt W0 wr ll (litL s i))) (fun _ ii _ => s.size - (intOf ii).toNat)
  case atStart => exact ⟨0, by omega, rfl, Lib.hid ⟨Kd.R_nil _ _ _ _ _, Below.refl _ _, fun x hx => by simp [litL] at hx⟩⟩
  case round =>
    obtain ⟨i, hi, rfl, hM⟩ := hrel
    have hli := Lib.hid (litL_length s i)
    have hsu := Lib.hid (litL_succ s i)
    have hlN0 := Lib.hid (show i = s.size → litN s = .mk 1 0 0 0 0 0 0 (litL s i) from fun h => by rw [h]; rfl)
    generalize litL s i = l at *
    by_cases hlt : i < s.size
    · have hd : decide ((i : Int) < (s.size : Int)) = true := decide_eq_true (by omega)
      have hd0 : (0 : Int) ≤ (i : Int) := by omega
      have hd1 : (i : Int) < (s.size : Int) := by omega
      have hx256 : (s[i]'hlt).toNat < 256 := UInt8.toNat_lt _
      have hby := Lib.hid (byteN_get s i hlt)
      have hbx : byteN s i = (s[i]'hlt).toNat := hby.out
      rw [hbx] at hsu
      generalize hxx : (s[i]'hlt).toNat = x at *
      have hxH := Lib.hid hxx
      clear hxx hby hbx
      obtain ⟨A3, c3, e3⟩ := Kd.R_slice hM.out.r
      subst e3
      have hxs := hxH.out
      go_wp2_with (first
        | (go_at_call 24; refine (hwi.out 0 0 0 0 x hx256 _).mono ?_; rintro e w1 ⟨rfl, hB1⟩; have hM1 := Lib.hid (hM.out.below hB1); clear hB1)
        | (go_at_call 23; refine (hse.out _ _ _ _ _).mono ?_; rintro e w2 ⟨rfl, hB2⟩; have hM6 := Lib.hid (hM1.out.below hB2); clear hB2; have hU := Lib.hid (show U64 (wth 0 0 x) ∧ U64 (wth 1 0 x) ∧ U64 (wth 2 0 x) ∧ U64 (wth 3 0 x) from ⟨u64_wth _ _ _ u64_0, u64_wth _ _ _ u64_0, u64_wth _ _ _ u64_0, u64_wth _ _ _ u64_0⟩); have hch := Lib.hid (show chN x = setN (wth 0 0 x) (wth 1 0 x) (wth 2 0 x) (wth 3 0 x) from rfl); generalize wth 0 0 x = q0 at *; generalize wth 1 0 x = q1 at *; generalize wth 2 0 x = q2 at *; generalize wth 3 0 x = q3 at *; have hVs6 := Lib.hid hM6.out.b.size)
        | ((with_reducible refine gate_builtin (b := .append) (xs := #[.tmp 11, .tmp 18]) rfl ?_); at_builtin; go_loud (refine Kd.R_append kNd (w0 := W0) W0.heap.size rfl (.tmp 11) (.tmp 18) 26 28 (.agg #[.int .i64 0, .int .u64 0, .int .u64 0, .int .u64 0, .int .u64 0, .int .i64 0, .int .i64 0, .slice none 0 0]) 80 rfl Try.underlying26 info28' rfl (by decide) (by decide) (.slice A3 l.length c3) l (setN q0 q1 q2 q3) (ndCells (setN q0 q1 q2 q3) (.slice none 0 0)) (fun _ => True) (fun _ => False) rfl rfl (NM_set _ _ _ _ _ _ _) (fun _ hk => hk.elim) (fun _ _ => trivial) hM6.out.r hM6.out.b hVs6.out (by have := hli.out; omega) ?_; intro v9 w9 ho9 hb9 hg9 hat9; have hMN := Lib.hid (show MkAt W0 w9 v9 (l ++ [setN q0 q1 q2 q3]) from ⟨ho9, hb9, fun z hz => (List.mem_append.1 hz).elim (hM6.out.g z) (fun h => by rw [List.mem_singleton.1 h]; exact gd_set hU.out.1 hU.out.2.1 hU.out.2.2.1 hU.out.2.2.2)⟩); clear ho9 hb9 hg9 hat9)))
      all_goals go_roundw
      case rel => exact ⟨i + 1, by omega, by go_num, by rw [hsu.out, hch.out]; exact hMN⟩
      case measure => simp [intOf]; omega
    · have hd : decide ((i : Int) < (s.size : Int)) = false := decide_eq_false (by omega)
      have hnd : ¬ i < s.size := hlt
      have hlN := Lib.hid (hlN0.out (by omega))
      have hll2 : l.length ≤ 1000 := by have := hli.out; omega
      have hllH := Lib.hid (show l.length ≤ 1000000 by omega)
      obtain ⟨A3, c3, e3⟩ := Kd.R_slice hM.out.r
      subst e3
      have hwb : w.heap.size < W0.heap.size := hZ0.out.lt
      have hZ := Lib.hid (hZ0.out.below hM.out.b hwb)
      have hBw := Lib.hid (below_then hB0.out hB0.out.size hM.out.b)
      have e0 := hZ.out.cell 0
      have e1 := hZ.out.cell 1
      have e2 := hZ.out.cell 2
      have e3 := hZ.out.cell 3
      have e4 := hZ.out.cell 4
      have e5 := hZ.out.cell 5
      have e6 := hZ.out.cell 6
      have e7 := hZ.out.cell 7
      have f0 := hZ.out.frozen 0
      have f1 := hZ.out.frozen 1
      have f2 := hZ.out.frozen 2
      have f3 := hZ.out.frozen 3
      have f4 := hZ.out.frozen 4
      have f5 := hZ.out.frozen 5
      have f6 := hZ.out.frozen 6
      have f7 := hZ.out.frozen 7
      simp only [List.getElem?_toArray, List.getElem?_cons_zero, List.getElem?_cons_succ] at e0 e1 e2 e3 e4 e5 e6 e7
      go_wp2_with (go_at_call 15; refine (hma.out 1 A3 l.length c3 l _).mono ?_; rintro e w5 ⟨rfl, hB5⟩; have hM5 := Lib.hid (hM.out.below hB5); have hZ5 := Lib.hid (hZ.out.below hB5 hZ.out.lt); have hBw5 := Lib.hid (below_then hBw.out hBw.out.size hB5); clear hB5; replace e0 := hZ5.out.cell 0; replace e1 := hZ5.out.cell 1; replace e2 := hZ5.out.cell 2; replace e3 := hZ5.out.cell 3; replace e4 := hZ5.out.cell 4; replace e5 := hZ5.out.cell 5; replace e6 := hZ5.out.cell 6; replace e7 := hZ5.out.cell 7; replace f0 := hZ5.out.frozen 0; replace f1 := hZ5.out.frozen 1; replace f2 := hZ5.out.frozen 2; replace f3 := hZ5.out.frozen 3; replace f4 := hZ5.out.frozen 4; replace f5 := hZ5.out.frozen 5; replace f6 := hZ5.out.frozen 6; replace f7 := hZ5.out.frozen 7; simp only [List.getElem?_toArray, List.getElem?_cons_zero, List.getElem?_cons_succ] at e0 e1 e2 e3 e4 e5 e6 e7)
      refine bodyPost_ret (results_cell_row rfl _ _ w.heap.size 28 _ (0, 0) _ rfl (set8 hZ5.out _ _ _ _ _ _ _ _) Try.underlying28 rfl rfl) rfl ?_
      exact ⟨_, rfl, by rw [hlN.out]; exact IsN_put8 hM5.out hllH.out hwb 1 _ _ _ _ _ _ _ _, below8 hBw5.out (Nat.le_refl _) _ _ _ _ _ _ _ _⟩
end Go.Proofs.Ytimhiacjoplkeaa
