/- The reference's from walked. Own text (printed by wip/c04/gen_rfr.py). -/
import Derived.Test.YtimhiacjoplkeaaRApt
import Derived.Test.YtimhiacjoplkeaaPla
import Derived.Laws.CopyRow
namespace Go.Proofs.Ytimhiacjoplkeaa
open Go.RowKit Go.Proofs.Ytimhiacjoplkeaa.P Go.Proofs.YtimhiacjoplkeaaW.PrintWords Go.Proofs.YtimhiacjoplkeaaW.PrintLast
set_option linter.unusedVariables false
set_option linter.unusedSimpArgs false
theorem copy_pv (ty : TypeId) (N g h : Nat) (P Q : Nat → Bool) (w : World) (hg : Blk w g 4 (arB N Q)) (hh : Blk w h 4 (arB N P)) :
    (Builtin.copy_ #[55, 55] ty #[pv N g, pv N h]).run Try.prog w = .ok (goInt ((arB N P).toList.length : Nat)) (w.setRow g (arB N P)) := by
  have hl : (arB N P).toList.length = N + 1 := by simp [arB]
  have hlq : (arB N Q).toList.length = N + 1 := by simp [arB]
  have h1 := run_copy_row (P := Try.prog) w 55 55 ty 4 g 0 (N + 1) (N + 1) ⟨h, 0, none⟩ (N + 1) (N + 1) (arB N Q) 4 (arB N P).toList Try.underlying55 (by kernel_rfl) hg (by rw [hl]; exact (Nat.min_self _).symm)
    (fun j v hv => by rw [add_off0, hh.cell, ← Array.getElem?_toList]; exact hv) (by rw [hl, arB_size]; omega) (fun v hv => by
      simp only [arB, List.mem_map] at hv
      obtain ⟨i, _, rfl⟩ := hv
      rfl)
  rw [h1, List.take_zero, List.nil_append, List.drop_of_length_le (by rw [hl, hlq]; omega), List.append_nil]
theorem oth_any (s : ByteArray) (op s0 s1 s2 s3 mn mx : Int) (ks : List Nd) (hop : op ≠ 0 ∧ op ≠ 1 ∧ op ≠ 2 ∧ op ≠ 3) (P : Nat → Bool) (j : Nat) (hj : j ≤ s.size) :
    stp s (.mk op s0 s1 s2 s3 mn mx ks) P j = (List.range (s.size + 1)).any (fun a => P a && apP s (decide (op = 5)) ks a j) := by
  unfold stp
  simp only [if_neg hop.1, if_neg hop.2.1, if_neg hop.2.2.1, if_neg hop.2.2.2]
  apply bool_ext
  simp only [List.any_eq_true, List.mem_range, Bool.and_eq_true, decide_eq_true_eq]
  unfold apP
  constructor
  · rintro ⟨i, h1, h2, h3, h4⟩
    exact ⟨i, by omega, h2, by simp [h4]; omega⟩
  · rintro ⟨i, h1, h2, h3⟩
    simp only [Bool.and_eq_true, decide_eq_true_eq] at h3
    exact ⟨i, by omega, h2, hj, h3.2⟩
set_option maxRecDepth 20000 in
set_option maxHeartbeats 4000000 in
theorem from_set (s : ByteArray) (hs : s.size ≤ 1000000) (op s0 s1 s2 s3 mn mx : Int) (ks : List Nd) (hu : U64 s0 ∧ U64 s1 ∧ U64 s2 ∧ U64 s3) (hop : op = 0) : FromOk s (.mk op s0 s1 s2 s3 mn mx ks) := by
  intro w v h P hn hP hr
  obtain ⟨A, c, rfl, hc, hlen, hK⟩ := hn
  simp only [op_mk, s0_mk, s1_mk, s2_mk, s3_mk, mn_mk, mx_mk, kids_mk] at hc hlen hK ⊢
  subst hop
  have hKH := Lib.hid hK
  have hPH := Lib.hid hP
  have hrH := Lib.hid hr
  have hhlt := hr.lt
  have hfull := Lib.hid (List.take_length (l := ks))
  have hhas := Lib.hid (fun (b : Nat) (hb : b < 256) w1 => has_r s0 s1 s2 s3 hu.1 hu.2.1 hu.2.2.1 hu.2.2.2 b hb w1)
  have hF : ∀ i, i < s.size → stp s (.mk 0 s0 s1 s2 s3 mn mx ks) P (i + 1) = (P i && hasS s0 s1 s2 s3 (byteN s i)) := fun i hi => by
    unfold stp; simp [show i + 1 ≤ s.size by omega]
  have hF0 : stp s (.mk 0 s0 s1 s2 s3 mn mx ks) P 0 = false := by unfold stp; simp
  generalize stp s (.mk 0 s0 s1 s2 s3 mn mx ks) P = F at *
  have hFH := Lib.hid hF
  clear hF hu
  clear hK hP hr
  show Calls Try.prog 39 #[.agg (boxC 0 s0 s1 s2 s3 mn mx (.slice A ks.length c)), .string s, pv s.size h] w _
  go_enter Try.func39, Try.ntmps39
  go_upto_region 2 with (refine wpList_make_exact rfl (.tmp 14) (.tmp 14) 55 rfl 4 (.bool false) 1 Try.underlying55 info4 (s.size + 1) _ rfl rfl (by simp) (by omega) (by omega) ?_)
  have hX1 := Lib.hid ((Blk.new w 28 (boxC 0 s0 s1 s2 s3 mn mx (.slice A ks.length c))).alloc (.cells (madeCells #[.bool false] (s.size + 1)) 4))
  have hB1 := Lib.hid (below_alloc (below_alloc (Below.refl w.heap.size w) (.cells (boxC 0 s0 s1 s2 s3 mn mx (.slice A ks.length c)) 28)) (.cells (madeCells #[.bool false] (s.size + 1)) 4))
  have hO1 : Hid (Blk ((w.alloc (.cells (boxC 0 s0 s1 s2 s3 mn mx (.slice A ks.length c)) 28)).alloc (.cells (madeCells #[.bool false] (s.size + 1)) 4)) (w.heap.size + 1) 4 (arB s.size (fun _ => false))) := Lib.hid (by
    have hb := Blk.new (w.alloc (.cells (boxC 0 s0 s1 s2 s3 mn mx (.slice A ks.length c)) 28)) 4 (madeCells #[.bool false] (s.size + 1))
    rw [arB_made, World.size_alloc] at hb
    rw [arB_made]
    exact hb)
  have hL1 := Lib.hid (hrH.out.below hB1.out hhlt)
  have hgl0 : w.heap.size < w.heap.size + 1 := by omega
  have hne : h ≠ w.heap.size + 1 := by omega
  generalize w.heap.size + 1 = g at *
  generalize (w.alloc (.cells (boxC 0 s0 s1 s2 s3 mn mx (.slice A ks.length c)) 28)).alloc (.cells (madeCells #[.bool false] (s.size + 1)) 4) = W1 at *
  have e0 : W1.cell? ⟨w.heap.size, 0, none⟩ = some (.int .i64 0) := hX1.out.cell 0
  have hO2 := Lib.hid (hO1.out.eqB (Q := fun j => decide (j ≤ 0) && F j) (fun j _ => by
    by_cases e : j = 0
    · subst e; rw [hF0]; simp
    · simp [e]))
  clear hO1
  go_wp2
  go_loopw [8] (fun ii wr => ∃ i : Nat, i ≤ s.size ∧ ii = .int .i64 i ∧ Hid (Blk wr g 4 (arB s.size (fun j => decide (j ≤ i) && F j))) ∧ Hid (Below w.heap.size w wr) ∧ Hid (Blk wr w.heap.size 28 (boxC 0 s0 s1 s2 s3 mn mx (.slice A ks.length c)))) (fun ii _ => s.size - (intOf ii).toNat)
  case atStart => exact ⟨0, by omega, rfl, hO2, hB1, hX1⟩
  case round =>
    clear hO2 hB1 hX1 hL1 e0 hF0
    obtain ⟨i, hi, rfl, hO, hB, hX⟩ := hrel
    obtain ⟨wo, rfl⟩ : ∃ wo : World, wo = wr := ⟨_, rfl⟩
    by_cases hlt : i < s.size
    · have hd : decide ((i : Int) < (s.size : Int)) = true := decide_eq_true (by omega)
      have hi0 : (0 : Int) ≤ (i : Int) := by omega
      have hi1 : (i : Int) < (s.size : Int) := by omega
      have hi2 : (i : Int) < ((s.size + 1 : Nat) : Int) := by omega
      have hi3 : ((i + 1 : Nat) : Int) < ((s.size + 1 : Nat) : Int) := by omega
      have hi4 : (0 : Int) ≤ ((i + 1 : Nat) : Int) := by omega
      have hi5 : i < s.size + 1 := by omega
      have hi6 : i + 1 < s.size + 1 := by omega
      have hi7 : (i : Int) < (s.size : Int) + 1 := by omega
      have hi8 : (0 : Int) ≤ (i : Int) + 1 := by omega
      have hi9 : (i : Int) + 1 < (s.size : Int) + 1 := by omega
      have hw : Go.RowKit.wrap64 ((i : Int) + 1) = (i : Int) + 1 := by
        have h := wrap64_nat (i + 1) (by omega)
        rwa [Int.natCast_add, Int.natCast_one] at h
      have hL := Lib.hid (hrH.out.below hB.out hhlt)
      have hbt : (s[i]'hlt).toNat = byteN s i := by unfold byteN; rw [List.getD_eq_getElem?_getD, List.getElem?_eq_getElem (by simpa using hlt)]; rfl
      have hFi := Lib.hid (hFH.out i hlt)
      have hset := Lib.hid (fun (V : World) (hV : Blk V g 4 (arB s.size (fun j => decide (j ≤ i) && F j))) (z : Bool) (hz : z = F (i + 1)) => (hV.setB (i + 1) z (by omega)).eqB (Q := fun j => decide (j ≤ i + 1) && F j) (fun j _ => by
        simp only [upd]
        by_cases e : j = i + 1
        · subst e; rw [if_pos rfl, hz]; simp
        · rw [if_neg e]
          by_cases h1 : j ≤ i
          · simp [h1, show j ≤ i + 1 by omega]
          · simp [h1, show ¬ j ≤ i + 1 by omega]))
      have hbtH := Lib.hid hbt
      clear hbt
      go_upto_region 7 with (fail)
      cases hpi : P i with
      | true =>
        rw [hpi, Bool.true_and] at hFi
        have hcl := hL.out.cellB i (by omega)
        rw [hpi] at hcl
        clear hpi
        refine start_ (n := 17) (S := (fun w' => w'.cell? ⟨h, i, none⟩ = some (.bool true) ∧ w'.cell? ⟨w.heap.size, 1, none⟩ = some (.int .u64 s0) ∧ w'.cell? ⟨w.heap.size, 2, none⟩ = some (.int .u64 s1) ∧ w'.cell? ⟨w.heap.size, 3, none⟩ = some (.int .u64 s2) ∧ w'.cell? ⟨w.heap.size, 4, none⟩ = some (.int .u64 s3))) (ds := [16]) #[false, false, false, false, false, false, false, false, false, false, false, false, false, false, false, false, false] (by kernel_rfl) rfl rfl ?_ (fun hHeld => ?_)
        · exact ⟨hcl, hX.out.cell 1, hX.out.cell 2, hX.out.cell 3, hX.out.cell 4⟩
        have hB2 := Lib.hid (below_drew1 hB.out)
        have hX2 : Hid (Blk wo.drew w.heap.size 28 (boxC 0 s0 s1 s2 s3 mn mx (.slice A ks.length c))) := hX
        have hO2 : Hid (Blk wo.drew g 4 (arB s.size (fun j => decide (j ≤ i) && F j))) := hO
        have hL2 : Hid (Blk wo.drew h 4 (arB s.size P)) := hL
        clear hB hX hO hL hcl
        generalize wo.drew = W2 at *
        refine pure_ (i := 0) (N := (some 26)) (v := ?_) (a' := ?_) #[true, false, false, false, false, false, false, false, false, false, false, false, false, false, false, false, false] rfl rfl (by kernel_rfl) (fun _ _ _ h => h) (Or.inl ⟨by rfl, ?_⟩) ?_ ?_
        rotate_left
        · intro w'
          go_simp
          with_reducible rfl
        rotate_left
        · simp only [Act.put, List.setIfInBounds_toArray, List.set_cons_zero, List.set_cons_succ, i64_w, i32_w]
          rfl
        refine pure_ (i := 1) (N := (some 27)) (v := ?_) (a' := ?_) #[true, true, false, false, false, false, false, false, false, false, false, false, false, false, false, false, false] rfl rfl (by kernel_rfl) (fun _ _ _ h => h) (Or.inl ⟨by rfl, ?_⟩) ?_ ?_
        rotate_left
        · intro w'
          go_simp
          with_reducible rfl
        rotate_left
        · simp only [Act.put, List.setIfInBounds_toArray, List.set_cons_zero, List.set_cons_succ, i64_w, i32_w]
          rfl
        refine pure_ (i := 2) (N := (some 28)) (v := ?_) (a' := ?_) #[true, true, true, false, false, false, false, false, false, false, false, false, false, false, false, false, false] rfl rfl (by kernel_rfl) (fun _ _ _ h => h) (Or.inl ⟨by rfl, ?_⟩) ?_ ?_
        rotate_left
        · intro w'
          go_simp
          with_reducible rfl
        rotate_left
        · simp only [Act.put, List.setIfInBounds_toArray, List.set_cons_zero, List.set_cons_succ, i64_w, i32_w]
          rfl
        refine pure_ (i := 3) (N := (some 29)) (v := ?_) (a' := ?_) #[true, true, true, true, false, false, false, false, false, false, false, false, false, false, false, false, false] rfl rfl (by kernel_rfl) (fun _ _ _ h => h) (Or.inl ⟨by rfl, ?_⟩) ?_ ?_
        rotate_left
        · intro w'
          go_simp
          with_reducible rfl
        rotate_left
        · simp only [Act.put, List.setIfInBounds_toArray, List.set_cons_zero, List.set_cons_succ, i64_w, i32_w]
          rfl
        refine pure_ (i := 4) (N := (some 30)) (v := ?_) (a' := ?_) #[true, true, true, true, true, false, false, false, false, false, false, false, false, false, false, false, false] rfl rfl (by kernel_rfl) (fun _ _ _ h => h) (Or.inl ⟨by rfl, ?_⟩) ?_ ?_
        rotate_left
        · intro w'
          go_simp
          with_reducible rfl
        rotate_left
        · simp only [Act.put, List.setIfInBounds_toArray, List.set_cons_zero, List.set_cons_succ, i64_w, i32_w]
          rfl
        refine pure_ (i := 5) (N := (some 31)) (v := ?_) (a' := ?_) #[true, true, true, true, true, true, false, false, false, false, false, false, false, false, false, false, false] rfl rfl (by kernel_rfl) (fun _ _ _ h => h) (Or.inl ⟨by rfl, ?_⟩) ?_ ?_
        rotate_left
        · intro w'
          go_simp
          with_reducible rfl
        rotate_left
        · simp only [Act.put, List.setIfInBounds_toArray, List.set_cons_zero, List.set_cons_succ, i64_w, i32_w]
          rfl
        refine take_ (i := 6) (N := (some 32)) (v := ?_) (a' := ?_) #[true, true, true, true, true, true, true, false, false, false, false, false, false, false, false, false, false] rfl rfl (by kernel_rfl) (fun _ _ _ h => h) (Or.inl ⟨by rfl, ?_⟩) hHeld ?_ ?_
        rotate_left
        · intro w' ⟨e9, e1, e2, e3, e4⟩
          go_simp
          with_reducible rfl
        rotate_left
        · simp only [Act.put, List.setIfInBounds_toArray, List.set_cons_zero, List.set_cons_succ, i64_w, i32_w]
          rfl
        refine pure_ (i := 7) (N := (some 33)) (v := ?_) (a' := ?_) #[true, true, true, true, true, true, true, true, false, false, false, false, false, false, false, false, false] rfl rfl (by kernel_rfl) (fun _ _ _ h => h) (Or.inl ⟨by rfl, ?_⟩) ?_ ?_
        rotate_left
        · intro w'
          go_simp
          with_reducible rfl
        rotate_left
        · simp only [Act.put, List.setIfInBounds_toArray, List.set_cons_zero, List.set_cons_succ, i64_w, i32_w]
          rfl
        refine pure_ (i := 8) (N := (some 34)) (v := ?_) (a' := ?_) #[true, true, true, true, true, true, true, true, true, false, false, false, false, false, false, false, false] rfl rfl (by kernel_rfl) (fun _ _ _ h => h) (Or.inl ⟨by rfl, ?_⟩) ?_ ?_
        rotate_left
        · intro w'
          go_simp
          with_reducible rfl
        rotate_left
        · simp only [Act.put, List.setIfInBounds_toArray, List.set_cons_zero, List.set_cons_succ, i64_w, i32_w]
          rfl
        refine take_ (i := 9) (N := (some 35)) (v := ?_) (a' := ?_) #[true, true, true, true, true, true, true, true, true, true, false, false, false, false, false, false, false] rfl rfl (by kernel_rfl) (fun _ _ _ h => h) (Or.inl ⟨by rfl, ?_⟩) hHeld ?_ ?_
        rotate_left
        · intro w' ⟨e9, e1, e2, e3, e4⟩
          go_simp
          with_reducible rfl
        rotate_left
        · simp only [Act.put, List.setIfInBounds_toArray, List.set_cons_zero, List.set_cons_succ, i64_w, i32_w]
          rfl
        refine pure_ (i := 10) (N := (some 36)) (v := ?_) (a' := ?_) #[true, true, true, true, true, true, true, true, true, true, true, false, false, false, false, false, false] rfl rfl (by kernel_rfl) (fun _ _ _ h => h) (Or.inl ⟨by rfl, ?_⟩) ?_ ?_
        rotate_left
        · intro w'
          go_simp
          with_reducible rfl
        rotate_left
        · simp only [Act.put, List.setIfInBounds_toArray, List.set_cons_zero, List.set_cons_succ, i64_w, i32_w]
          rfl
        refine pure_ (i := 11) (N := (some 37)) (v := ?_) (a' := ?_) #[true, true, true, true, true, true, true, true, true, true, true, true, false, false, false, false, false] rfl rfl (by kernel_rfl) (fun _ _ _ h => h) (Or.inl ⟨by rfl, ?_⟩) ?_ ?_
        rotate_left
        · intro w'
          go_simp
          with_reducible rfl
        rotate_left
        · simp only [Act.put, List.setIfInBounds_toArray, List.set_cons_zero, List.set_cons_succ, i64_w, i32_w]
          rfl
        refine pure_ (i := 12) (N := (some 38)) (v := ?_) (a' := ?_) #[true, true, true, true, true, true, true, true, true, true, true, true, true, false, false, false, false] rfl rfl (by kernel_rfl) (fun _ _ _ h => h) (Or.inl ⟨by rfl, ?_⟩) ?_ ?_
        rotate_left
        · intro w'
          go_simp
          with_reducible rfl
        rotate_left
        · simp only [Act.put, List.setIfInBounds_toArray, List.set_cons_zero, List.set_cons_succ, i64_w, i32_w]
          rfl
        refine one_ (i := 13) (N := (some 39)) #[true, true, true, true, true, true, true, true, true, true, true, true, true, true, false, false, false] rfl rfl (by kernel_rfl) (by decide) (fun K hK => ?_)
        refine goes_ Try.func40 (by kernel_rfl) rfl #[setV s0 s1 s2 s3, .int .u8 (((s[i]'hlt).toNat : Nat) : Int)] (by rfl) rfl rfl (by simp only [List.map_toArray, List.map_cons, List.map_nil]; rfl) ?_
        refine (hhas.out _ (UInt8.toNat_lt _) _).mono ?_
        rintro e W3 ⟨rfl, hbb⟩
        refine ⟨_, rfl, ?_⟩
        have hB3 := Lib.hid (below_then hB2.out hB2.out.size hbb)
        have hX3 := Lib.hid (hX2.out.below hbb hX2.out.lt)
        have hO3 := Lib.hid (hO2.out.below hbb hO2.out.lt)
        refine hK.out _ _ ⟨pw_cell_below hbb hHeld.1, hX3.out.cell 1, hX3.out.cell 2, hX3.out.cell 3, hX3.out.cell 4⟩ (fun hHeld => ?_)
        clear hK K hbb
        refine norm_ (a' := ?_) ?_ ?_
        rotate_left
        · show Act.put _ (some 39) _ = _
          simp only [Act.put, List.setIfInBounds_toArray, List.set_cons_zero, List.set_cons_succ, i64_w, i32_w]
          rfl
        rw [hbtH.out, ← hFi.out]
        refine pure_ (i := 14) (N := (some 40)) (v := ?_) (a' := ?_) #[true, true, true, true, true, true, true, true, true, true, true, true, true, true, true, false, false] rfl rfl (by kernel_rfl) (fun _ _ _ h => h) (Or.inl ⟨by rfl, ?_⟩) ?_ ?_
        rotate_left
        · intro w'
          go_simp
          with_reducible rfl
        rotate_left
        · simp only [Act.put, List.setIfInBounds_toArray, List.set_cons_zero, List.set_cons_succ, i64_w, i32_w]
          rfl
        refine pure_ (i := 15) (N := (some 41)) (v := ?_) (a' := ?_) #[true, true, true, true, true, true, true, true, true, true, true, true, true, true, true, true, false] rfl rfl (by kernel_rfl) (fun _ _ _ h => h) (Or.inl ⟨by rfl, ?_⟩) ?_ ?_
        rotate_left
        · intro w'
          go_simp
          with_reducible rfl
        rotate_left
        · simp only [Act.put, List.setIfInBounds_toArray, List.set_cons_zero, List.set_cons_succ, i64_w, i32_w]
          rfl
        have co := hO3.out.cellB (i + 1) (by omega)
        have fo := hO3.out.frozen (i + 1)
        have hS := Lib.hid (hset.out W3 hO3.out (F (i + 1)) rfl)
        have hBs := Lib.hid (hB3.out.setCell (p := ⟨g, i + 1, none⟩) (Nat.le_of_lt hgl0) (.bool (F (i + 1))))
        have hXs := Lib.hid (Blk.far (p := ⟨g, i + 1, none⟩) hX3.out (by simp only; omega) (.bool (F (i + 1))))
        refine last_ (i := 16) (N := none) #[true, true, true, true, true, true, true, true, true, true, true, true, true, true, true, true, true] rfl rfl (by kernel_rfl) (by decide) (fun K hK => ?_)
        refine skip_ (w1 := ?_) (by rfl) rfl ?_ ?_
        rotate_left
        · go_simp
          rfl
        refine hK.out _ _ ?_
        clear hK K
        refine done_ (by kernel_rfl) ?_
        clear co fo
        go_wp2
        go_roundw
        case rel => exact ⟨i + 1, by omega, by go_num, hS, hBs, hXs⟩
        case measure => simp [intOf]; omega
      | false =>
        rw [hpi, Bool.false_and] at hFi
        have hcl := hL.out.cellB i (by omega)
        rw [hpi] at hcl
        clear hpi
        refine start_ (n := 17) (S := (fun w' => w'.cell? ⟨h, i, none⟩ = some (.bool false) ∧ w'.cell? ⟨w.heap.size, 1, none⟩ = some (.int .u64 s0) ∧ w'.cell? ⟨w.heap.size, 2, none⟩ = some (.int .u64 s1) ∧ w'.cell? ⟨w.heap.size, 3, none⟩ = some (.int .u64 s2) ∧ w'.cell? ⟨w.heap.size, 4, none⟩ = some (.int .u64 s3))) (ds := [16]) #[false, false, false, false, false, false, false, false, false, false, false, false, false, false, false, false, false] (by kernel_rfl) rfl rfl ?_ (fun hHeld => ?_)
        · exact ⟨hcl, hX.out.cell 1, hX.out.cell 2, hX.out.cell 3, hX.out.cell 4⟩
        have hB2 := Lib.hid (below_drew1 hB.out)
        have hX2 : Hid (Blk wo.drew w.heap.size 28 (boxC 0 s0 s1 s2 s3 mn mx (.slice A ks.length c))) := hX
        have hO2 : Hid (Blk wo.drew g 4 (arB s.size (fun j => decide (j ≤ i) && F j))) := hO
        have hL2 : Hid (Blk wo.drew h 4 (arB s.size P)) := hL
        clear hB hX hO hL hcl
        generalize wo.drew = W2 at *
        refine pure_ (i := 0) (N := (some 26)) (v := ?_) (a' := ?_) #[true, false, false, false, false, false, false, false, false, false, false, false, false, false, false, false, false] rfl rfl (by kernel_rfl) (fun _ _ _ h => h) (Or.inl ⟨by rfl, ?_⟩) ?_ ?_
        rotate_left
        · intro w'
          go_simp
          with_reducible rfl
        rotate_left
        · simp only [Act.put, List.setIfInBounds_toArray, List.set_cons_zero, List.set_cons_succ, i64_w, i32_w]
          rfl
        refine pure_ (i := 1) (N := (some 27)) (v := ?_) (a' := ?_) #[true, true, false, false, false, false, false, false, false, false, false, false, false, false, false, false, false] rfl rfl (by kernel_rfl) (fun _ _ _ h => h) (Or.inl ⟨by rfl, ?_⟩) ?_ ?_
        rotate_left
        · intro w'
          go_simp
          with_reducible rfl
        rotate_left
        · simp only [Act.put, List.setIfInBounds_toArray, List.set_cons_zero, List.set_cons_succ, i64_w, i32_w]
          rfl
        refine pure_ (i := 2) (N := (some 28)) (v := ?_) (a' := ?_) #[true, true, true, false, false, false, false, false, false, false, false, false, false, false, false, false, false] rfl rfl (by kernel_rfl) (fun _ _ _ h => h) (Or.inl ⟨by rfl, ?_⟩) ?_ ?_
        rotate_left
        · intro w'
          go_simp
          with_reducible rfl
        rotate_left
        · simp only [Act.put, List.setIfInBounds_toArray, List.set_cons_zero, List.set_cons_succ, i64_w, i32_w]
          rfl
        refine pure_ (i := 3) (N := (some 29)) (v := ?_) (a' := ?_) #[true, true, true, true, false, false, false, false, false, false, false, false, false, false, false, false, false] rfl rfl (by kernel_rfl) (fun _ _ _ h => h) (Or.inl ⟨by rfl, ?_⟩) ?_ ?_
        rotate_left
        · intro w'
          go_simp
          with_reducible rfl
        rotate_left
        · simp only [Act.put, List.setIfInBounds_toArray, List.set_cons_zero, List.set_cons_succ, i64_w, i32_w]
          rfl
        refine pure_ (i := 4) (N := (some 30)) (v := ?_) (a' := ?_) #[true, true, true, true, true, false, false, false, false, false, false, false, false, false, false, false, false] rfl rfl (by kernel_rfl) (fun _ _ _ h => h) (Or.inl ⟨by rfl, ?_⟩) ?_ ?_
        rotate_left
        · intro w'
          go_simp
          with_reducible rfl
        rotate_left
        · simp only [Act.put, List.setIfInBounds_toArray, List.set_cons_zero, List.set_cons_succ, i64_w, i32_w]
          rfl
        refine pure_ (i := 5) (N := (some 31)) (v := ?_) (a' := ?_) #[true, true, true, true, true, true, false, false, false, false, false, false, false, false, false, false, false] rfl rfl (by kernel_rfl) (fun _ _ _ h => h) (Or.inl ⟨by rfl, ?_⟩) ?_ ?_
        rotate_left
        · intro w'
          go_simp
          with_reducible rfl
        rotate_left
        · simp only [Act.put, List.setIfInBounds_toArray, List.set_cons_zero, List.set_cons_succ, i64_w, i32_w]
          rfl
        refine take_ (i := 6) (N := (some 32)) (v := ?_) (a' := ?_) #[true, true, true, true, true, true, true, false, false, false, false, false, false, false, false, false, false] rfl rfl (by kernel_rfl) (fun _ _ _ h => h) (Or.inl ⟨by rfl, ?_⟩) hHeld ?_ ?_
        rotate_left
        · intro w' ⟨e9, e1, e2, e3, e4⟩
          go_simp
          with_reducible rfl
        rotate_left
        · simp only [Act.put, List.setIfInBounds_toArray, List.set_cons_zero, List.set_cons_succ, i64_w, i32_w]
          rfl
        refine pure_ (i := 7) (N := (some 33)) (v := ?_) (a' := ?_) #[true, true, true, true, true, true, true, true, false, false, false, false, false, false, false, false, false] rfl rfl (by kernel_rfl) (fun _ _ _ h => h) (Or.inl ⟨by rfl, ?_⟩) ?_ ?_
        rotate_left
        · intro w'
          go_simp
          with_reducible rfl
        rotate_left
        · simp only [Act.put, List.setIfInBounds_toArray, List.set_cons_zero, List.set_cons_succ, i64_w, i32_w]
          rfl
        refine pure_ (i := 8) (N := (some 34)) (v := undef) (a' := ?_) #[true, true, true, true, true, true, true, true, true, false, false, false, false, false, false, false, false] rfl rfl (by kernel_rfl) (fun _ _ _ h => h) (Or.inr ⟨by rfl, rfl⟩) ?_ ?_
        rotate_left
        · simp only [Act.put, List.setIfInBounds_toArray, List.set_cons_zero, List.set_cons_succ, i64_w, i32_w]
          rfl
        refine pure_ (i := 9) (N := (some 35)) (v := undef) (a' := ?_) #[true, true, true, true, true, true, true, true, true, true, false, false, false, false, false, false, false] rfl rfl (by kernel_rfl) (fun _ _ _ h => h) (Or.inr ⟨by rfl, rfl⟩) ?_ ?_
        rotate_left
        · simp only [Act.put, List.setIfInBounds_toArray, List.set_cons_zero, List.set_cons_succ, i64_w, i32_w]
          rfl
        refine pure_ (i := 10) (N := (some 36)) (v := undef) (a' := ?_) #[true, true, true, true, true, true, true, true, true, true, true, false, false, false, false, false, false] rfl rfl (by kernel_rfl) (fun _ _ _ h => h) (Or.inr ⟨by rfl, rfl⟩) ?_ ?_
        rotate_left
        · simp only [Act.put, List.setIfInBounds_toArray, List.set_cons_zero, List.set_cons_succ, i64_w, i32_w]
          rfl
        refine pure_ (i := 11) (N := (some 37)) (v := undef) (a' := ?_) #[true, true, true, true, true, true, true, true, true, true, true, true, false, false, false, false, false] rfl rfl (by kernel_rfl) (fun _ _ _ h => h) (Or.inr ⟨by rfl, rfl⟩) ?_ ?_
        rotate_left
        · simp only [Act.put, List.setIfInBounds_toArray, List.set_cons_zero, List.set_cons_succ, i64_w, i32_w]
          rfl
        refine pure_ (i := 12) (N := (some 38)) (v := undef) (a' := ?_) #[true, true, true, true, true, true, true, true, true, true, true, true, true, false, false, false, false] rfl rfl (by kernel_rfl) (fun _ _ _ h => h) (Or.inr ⟨by rfl, rfl⟩) ?_ ?_
        rotate_left
        · simp only [Act.put, List.setIfInBounds_toArray, List.set_cons_zero, List.set_cons_succ, i64_w, i32_w]
          rfl
        refine pure_ (i := 13) (N := (some 39)) (v := undef) (a' := ?_) #[true, true, true, true, true, true, true, true, true, true, true, true, true, true, false, false, false] rfl rfl (by kernel_rfl) (fun _ _ _ h => h) (Or.inr ⟨by rfl, rfl⟩) ?_ ?_
        rotate_left
        · simp only [Act.put, List.setIfInBounds_toArray, List.set_cons_zero, List.set_cons_succ, i64_w, i32_w]
          rfl
        refine pure_ (i := 14) (N := (some 40)) (v := ?_) (a' := ?_) #[true, true, true, true, true, true, true, true, true, true, true, true, true, true, true, false, false] rfl rfl (by kernel_rfl) (fun _ _ _ h => h) (Or.inl ⟨by rfl, ?_⟩) ?_ ?_
        rotate_left
        · intro w'
          go_simp
          with_reducible rfl
        rotate_left
        · simp only [Act.put, List.setIfInBounds_toArray, List.set_cons_zero, List.set_cons_succ, i64_w, i32_w]
          rfl
        refine pure_ (i := 15) (N := (some 41)) (v := ?_) (a' := ?_) #[true, true, true, true, true, true, true, true, true, true, true, true, true, true, true, true, false] rfl rfl (by kernel_rfl) (fun _ _ _ h => h) (Or.inl ⟨by rfl, ?_⟩) ?_ ?_
        rotate_left
        · intro w'
          go_simp
          with_reducible rfl
        rotate_left
        · simp only [Act.put, List.setIfInBounds_toArray, List.set_cons_zero, List.set_cons_succ, i64_w, i32_w]
          rfl
        have co := hO2.out.cellB (i + 1) (by omega)
        have fo := hO2.out.frozen (i + 1)
        have hz : Hid (false = F (i + 1)) := Lib.hid hFi.out.symm
        have hS := Lib.hid (hset.out W2 hO2.out false hz.out)
        have hBs := Lib.hid (hB2.out.setCell (p := ⟨g, i + 1, none⟩) (Nat.le_of_lt hgl0) (.bool false))
        have hXs := Lib.hid (Blk.far (p := ⟨g, i + 1, none⟩) hX2.out (by simp only; omega) (.bool false))
        refine last_ (i := 16) (N := none) #[true, true, true, true, true, true, true, true, true, true, true, true, true, true, true, true, true] rfl rfl (by kernel_rfl) (by decide) (fun K hK => ?_)
        refine skip_ (w1 := ?_) (by rfl) rfl ?_ ?_
        rotate_left
        · go_simp
          rfl
        refine hK.out _ _ ?_
        clear hK K
        refine done_ (by kernel_rfl) ?_
        clear co fo
        go_wp2
        go_roundw
        case rel => exact ⟨i + 1, by omega, by go_num, hS, hBs, hXs⟩
        case measure => simp [intOf]; omega
    · have hd : decide ((i : Int) < (s.size : Int)) = false := decide_eq_false (by omega)
      have hE := Lib.hid (hO.out.eqB (Q := F) (fun j hj => by simp [show j ≤ i by omega]))
      clear hO
      go_wp2
      go_ret
      exact ⟨g, rfl, Nat.le_of_lt hgl0, hE.out, hB.out⟩
set_option maxRecDepth 20000 in
set_option maxHeartbeats 4000000 in
theorem from_cat (s : ByteArray) (hs : s.size ≤ 1000000) (op s0 s1 s2 s3 mn mx : Int) (ks : List Nd) (hk : ∀ k ∈ ks, FromOk s k) (hop : op = 1) : FromOk s (.mk op s0 s1 s2 s3 mn mx ks) := by
  intro w v h P hn hP hr
  obtain ⟨A, c, rfl, hc, hlen, hK⟩ := hn
  simp only [op_mk, s0_mk, s1_mk, s2_mk, s3_mk, mn_mk, mx_mk, kids_mk] at hc hlen hK ⊢
  subst hop
  have hKH := Lib.hid hK
  have hPH := Lib.hid hP
  have hrH := Lib.hid hr
  have hhlt := hr.lt
  have hfull := Lib.hid (List.take_length (l := ks))
  have hkH := Lib.hid hk
  have hst := Lib.hid (stp_op1 s s0 s1 s2 s3 mn mx ks)
  clear hk
  rw [hst.out]
  clear hK hP hr
  show Calls Try.prog 39 #[.agg (boxC 1 s0 s1 s2 s3 mn mx (.slice A ks.length c)), .string s, pv s.size h] w _
  go_enter Try.func39, Try.ntmps39
  go_upto_region 2 with (refine wpList_make_exact rfl (.tmp 14) (.tmp 14) 55 rfl 4 (.bool false) 1 Try.underlying55 info4 (s.size + 1) _ rfl rfl (by simp) (by omega) (by omega) ?_)
  have hX1 := Lib.hid ((Blk.new w 28 (boxC 1 s0 s1 s2 s3 mn mx (.slice A ks.length c))).alloc (.cells (madeCells #[.bool false] (s.size + 1)) 4))
  have hB1 := Lib.hid (below_alloc (below_alloc (Below.refl w.heap.size w) (.cells (boxC 1 s0 s1 s2 s3 mn mx (.slice A ks.length c)) 28)) (.cells (madeCells #[.bool false] (s.size + 1)) 4))
  have hO1 : Hid (Blk ((w.alloc (.cells (boxC 1 s0 s1 s2 s3 mn mx (.slice A ks.length c)) 28)).alloc (.cells (madeCells #[.bool false] (s.size + 1)) 4)) (w.heap.size + 1) 4 (arB s.size (fun _ => false))) := Lib.hid (by
    have hb := Blk.new (w.alloc (.cells (boxC 1 s0 s1 s2 s3 mn mx (.slice A ks.length c)) 28)) 4 (madeCells #[.bool false] (s.size + 1))
    rw [arB_made, World.size_alloc] at hb
    rw [arB_made]
    exact hb)
  have hL1 := Lib.hid (hrH.out.below hB1.out hhlt)
  have hgl0 : w.heap.size < w.heap.size + 1 := by omega
  have hne : h ≠ w.heap.size + 1 := by omega
  generalize w.heap.size + 1 = g at *
  generalize (w.alloc (.cells (boxC 1 s0 s1 s2 s3 mn mx (.slice A ks.length c)) 28)).alloc (.cells (madeCells #[.bool false] (s.size + 1)) 4) = W1 at *
  have e0 : W1.cell? ⟨w.heap.size, 0, none⟩ = some (.int .i64 1) := hX1.out.cell 0
  go_wp2
  rw [copy_pv 3 s.size g h P _ W1 hO1.out hL1.out]
  go_wp2
  have hO2 := Lib.hid (hO1.out.setRow_ (arB s.size P))
  have hX2 := Lib.hid (Blk.setRow_far hX1.out (k := g) (arB s.size P) (by omega))
  have hB2 := Lib.hid (below_setRow_ hB1.out (Nat.le_of_lt hgl0) (arB s.size P))
  clear hO1 hX1 hB1 hL1 e0
  generalize W1.setRow g (arB s.size P) = W2 at *
  go_loopw [7, 9] (fun oo jj wr => ∃ j go : Nat, j ≤ ks.length ∧ w.heap.size ≤ go ∧ jj = .int .i64 j ∧ oo = pv s.size go ∧ Hid (Blk wr go 4 (arB s.size (stpC s (ks.take j) P))) ∧ Hid (Below w.heap.size w wr) ∧ Hid (Blk wr w.heap.size 28 (boxC 1 s0 s1 s2 s3 mn mx (.slice A ks.length c)))) (fun _ jj _ => ks.length - (intOf jj).toNat)
  case atStart => exact ⟨0, g, by omega, Nat.le_of_lt hgl0, rfl, rfl, by rw [List.take_zero]; unfold stpC; exact hO2, hB2, hX2⟩
  case round =>
    clear hO2 hB2 hX2
    obtain ⟨j, go, hj, hgo, rfl, rfl, hO, hB, hX⟩ := hrel
    obtain ⟨wp, rfl⟩ : ∃ wp : World, wp = wr := ⟨_, rfl⟩
    have hc7 : wp.cell? ⟨w.heap.size, 7, none⟩ = some (.slice A ks.length c) := hX.out.cell 7
    by_cases hlj : j < ks.length
    · have hd2 : decide ((j : Int) < (ks.length : Int)) = true := decide_eq_true (by omega)
      have hj0 : (0 : Int) ≤ (j : Int) := by omega
      have hj1 : (j : Int) < (ks.length : Int) := by omega
      have hbd := Lib.hid (fun i h => lin_bd (stpC_lin s (ks.take j)) hPH.out i h)
      obtain ⟨ad, A', c', hA, hN, q0, q1, q2, q3, q4, q5, q6, q7⟩ := kid_at hKH.out j hlj
      subst hA
      have hNp := Lib.hid (hN.below hB.out)
      replace q0 := pw_cell_below hB.out q0
      replace q1 := pw_cell_below hB.out q1
      replace q2 := pw_cell_below hB.out q2
      replace q3 := pw_cell_below hB.out q3
      replace q4 := pw_cell_below hB.out q4
      replace q5 := pw_cell_below hB.out q5
      replace q6 := pw_cell_below hB.out q6
      replace q7 := pw_cell_below hB.out q7
      have hstp := Lib.hid (hkH.out ks[j] (List.getElem_mem hlj))
      have htk := Lib.hid (show ks.take (j + 1) = ks.take j ++ [ks[j]] from List.take_succ_eq_append_getElem hlj)
      have hap := Lib.hid (show stpC s (ks.take (j + 1)) P = stp s ks[j] (stpC s (ks.take j) P) by rw [htk.out]; exact stpC_snoc s _ _ P)
      clear hN htk
      generalize ks[j] = k at *
      obtain ⟨m, hm⟩ : ∃ m, m = k.kids.length := ⟨_, rfl⟩
      rw [← hm] at hNp q7
      clear hm
      go_wp2_with (go_at_call 39; refine (hstp.out _ _ go _ hNp.out hbd.out hO.out).mono ?_; rintro e W8 ⟨gx, rfl, hgx, hO8, hB8⟩; have hB8H := Lib.hid (below_then hB.out hB.out.size hB8); have hX8 := Lib.hid (hX.out.below hB8 hX.out.lt); have hO8H := Lib.hid hO8; have hgx2 : w.heap.size ≤ gx := Nat.le_trans hB.out.size hgx; clear hB8 hO8 hgx hc7 q0 q1 q2 q3 q4 q5 q6 q7)
      go_roundw
      case rel => exact ⟨j + 1, gx, by omega, hgx2, by go_num, rfl, by rw [hap.out]; exact hO8H, hB8H, hX8⟩
      case measure => simp [intOf]; omega
    · have hd2 : decide ((j : Int) < (ks.length : Int)) = false := decide_eq_false (by omega)
      have hjl : j = ks.length := by omega
      have hE := Lib.hid (show Blk wp go 4 (arB s.size (stpC s ks P)) by have := hO.out; rwa [hjl, hfull.out] at this)
      clear hjl
      go_wp2
      go_ret
      exact ⟨go, rfl, hgo, hE.out, hB.out⟩
set_option maxRecDepth 20000 in
set_option maxHeartbeats 4000000 in
theorem from_alt (s : ByteArray) (hs : s.size ≤ 1000000) (op s0 s1 s2 s3 mn mx : Int) (ks : List Nd) (hk : ∀ k ∈ ks, FromOk s k) (hop : op = 2) : FromOk s (.mk op s0 s1 s2 s3 mn mx ks) := by
  intro w v h P hn hP hr
  obtain ⟨A, c, rfl, hc, hlen, hK⟩ := hn
  simp only [op_mk, s0_mk, s1_mk, s2_mk, s3_mk, mn_mk, mx_mk, kids_mk] at hc hlen hK ⊢
  subst hop
  have hKH := Lib.hid hK
  have hPH := Lib.hid hP
  have hrH := Lib.hid hr
  have hhlt := hr.lt
  have hfull := Lib.hid (List.take_length (l := ks))
  have hkH := Lib.hid hk
  have hst := Lib.hid (stp_op2 s s0 s1 s2 s3 mn mx ks)
  have hei := Lib.hid (fun g h P Q w hg hh => either_c s.size hs g h P Q w hg hh)
  clear hk
  rw [hst.out]
  clear hK hP hr
  show Calls Try.prog 39 #[.agg (boxC 2 s0 s1 s2 s3 mn mx (.slice A ks.length c)), .string s, pv s.size h] w _
  go_enter Try.func39, Try.ntmps39
  go_upto_region 2 with (refine wpList_make_exact rfl (.tmp 14) (.tmp 14) 55 rfl 4 (.bool false) 1 Try.underlying55 info4 (s.size + 1) _ rfl rfl (by simp) (by omega) (by omega) ?_)
  have hX1 := Lib.hid ((Blk.new w 28 (boxC 2 s0 s1 s2 s3 mn mx (.slice A ks.length c))).alloc (.cells (madeCells #[.bool false] (s.size + 1)) 4))
  have hB1 := Lib.hid (below_alloc (below_alloc (Below.refl w.heap.size w) (.cells (boxC 2 s0 s1 s2 s3 mn mx (.slice A ks.length c)) 28)) (.cells (madeCells #[.bool false] (s.size + 1)) 4))
  have hO1 : Hid (Blk ((w.alloc (.cells (boxC 2 s0 s1 s2 s3 mn mx (.slice A ks.length c)) 28)).alloc (.cells (madeCells #[.bool false] (s.size + 1)) 4)) (w.heap.size + 1) 4 (arB s.size (fun _ => false))) := Lib.hid (by
    have hb := Blk.new (w.alloc (.cells (boxC 2 s0 s1 s2 s3 mn mx (.slice A ks.length c)) 28)) 4 (madeCells #[.bool false] (s.size + 1))
    rw [arB_made, World.size_alloc] at hb
    rw [arB_made]
    exact hb)
  have hL1 := Lib.hid (hrH.out.below hB1.out hhlt)
  have hgl0 : w.heap.size < w.heap.size + 1 := by omega
  have hne : h ≠ w.heap.size + 1 := by omega
  generalize w.heap.size + 1 = g at *
  generalize (w.alloc (.cells (boxC 2 s0 s1 s2 s3 mn mx (.slice A ks.length c)) 28)).alloc (.cells (madeCells #[.bool false] (s.size + 1)) 4) = W1 at *
  have e0 : W1.cell? ⟨w.heap.size, 0, none⟩ = some (.int .i64 2) := hX1.out.cell 0
  go_wp2
  clear e0
  go_loopw [7, 10] (fun oo jj wr => ∃ j go : Nat, j ≤ ks.length ∧ w.heap.size ≤ go ∧ jj = .int .i64 j ∧ oo = pv s.size go ∧ Hid (Blk wr go 4 (arB s.size (stpA s (ks.take j) P))) ∧ Hid (Below w.heap.size w wr) ∧ Hid (Blk wr w.heap.size 28 (boxC 2 s0 s1 s2 s3 mn mx (.slice A ks.length c)))) (fun _ jj _ => ks.length - (intOf jj).toNat)
  case atStart => exact ⟨0, g, by omega, Nat.le_of_lt hgl0, rfl, rfl, by rw [List.take_zero]; unfold stpA; exact hO1, hB1, hX1⟩
  case round =>
    clear hO1 hB1 hX1 hL1
    obtain ⟨j, go, hj, hgo, rfl, rfl, hO, hB, hX⟩ := hrel
    obtain ⟨wp, rfl⟩ : ∃ wp : World, wp = wr := ⟨_, rfl⟩
    have hc7 : wp.cell? ⟨w.heap.size, 7, none⟩ = some (.slice A ks.length c) := hX.out.cell 7
    by_cases hlj : j < ks.length
    · have hd2 : decide ((j : Int) < (ks.length : Int)) = true := decide_eq_true (by omega)
      have hj0 : (0 : Int) ≤ (j : Int) := by omega
      have hj1 : (j : Int) < (ks.length : Int) := by omega
      have hL := Lib.hid (hrH.out.below hB.out hhlt)
      obtain ⟨ad, A', c', hA, hN, q0, q1, q2, q3, q4, q5, q6, q7⟩ := kid_at hKH.out j hlj
      subst hA
      have hNp := Lib.hid (hN.below hB.out)
      replace q0 := pw_cell_below hB.out q0
      replace q1 := pw_cell_below hB.out q1
      replace q2 := pw_cell_below hB.out q2
      replace q3 := pw_cell_below hB.out q3
      replace q4 := pw_cell_below hB.out q4
      replace q5 := pw_cell_below hB.out q5
      replace q6 := pw_cell_below hB.out q6
      replace q7 := pw_cell_below hB.out q7
      have hstp := Lib.hid (hkH.out ks[j] (List.getElem_mem hlj))
      have htk := Lib.hid (show ks.take (j + 1) = ks.take j ++ [ks[j]] from List.take_succ_eq_append_getElem hlj)
      have hap := Lib.hid (fun p => show stpA s (ks.take (j + 1)) P p = orP (stpA s (ks.take j) P) (stp s ks[j] P) p by rw [htk.out]; exact stpA_snoc s _ P p _)
      clear hN htk
      generalize ks[j] = k at *
      obtain ⟨m, hm⟩ : ∃ m, m = k.kids.length := ⟨_, rfl⟩
      rw [← hm] at hNp q7
      clear hm
      go_wp2_with (first
        | (go_at_call 39; refine (hstp.out _ _ h _ hNp.out hPH.out hL.out).mono ?_; rintro e W8 ⟨gx, rfl, hgx, hO8, hB8⟩; have hB8H := Lib.hid (below_then hB.out hB.out.size hB8); have hX8 := Lib.hid (hX.out.below hB8 hX.out.lt); have hA8 := Lib.hid (hO.out.below hB8 hO.out.lt); have hO8H := Lib.hid hO8; clear hB8 hO8 hgx hc7 q0 q1 q2 q3 q4 q5 q6 q7)
        | (go_at_call 41; refine (hei.out go gx _ _ _ hA8.out hO8H.out).mono ?_; rintro e W9 ⟨gy, rfl, hgy, hO9, hB9⟩; have hB9H := Lib.hid (below_then hB8H.out hB8H.out.size hB9); have hX9 := Lib.hid (hX8.out.below hB9 hX8.out.lt); have hO9H := Lib.hid (hO9.eqB (Q := stpA s (ks.take (j + 1)) P) (fun p _ => (hap.out p).symm)); have hgy2 : w.heap.size ≤ gy := Nat.le_trans hB8H.out.size hgy; clear hB9 hO9 hgy))
      go_roundw
      case rel => exact ⟨j + 1, gy, by omega, hgy2, by go_num, rfl, hO9H, hB9H, hX9⟩
      case measure => simp [intOf]; omega
    · have hd2 : decide ((j : Int) < (ks.length : Int)) = false := decide_eq_false (by omega)
      have hjl : j = ks.length := by omega
      have hE := Lib.hid (show Blk wp go 4 (arB s.size (stpA s ks P)) by have := hO.out; rwa [hjl, hfull.out] at this)
      clear hjl
      go_wp2
      go_ret
      exact ⟨go, rfl, hgo, hE.out, hB.out⟩
set_option maxRecDepth 20000 in
set_option maxHeartbeats 4000000 in
theorem from_rep (s : ByteArray) (hs : s.size ≤ 1000000) (op s0 s1 s2 s3 mn mx : Int) (ks : List Nd) (hk : ∀ k ∈ ks, FromOk s k) (hop : op = 3) (hne : ks ≠ []) (hmn : 0 ≤ mn ∧ mn ≤ 1000) (hmx0 : -1 ≤ mx) (hmx : mx ≤ 1000) : FromOk s (.mk op s0 s1 s2 s3 mn mx ks) := by
  intro w v h P hn hP hr
  obtain ⟨A, c, rfl, hc, hlen, hK⟩ := hn
  simp only [op_mk, s0_mk, s1_mk, s2_mk, s3_mk, mn_mk, mx_mk, kids_mk] at hc hlen hK ⊢
  subst hop
  obtain ⟨k, kt, rfl⟩ : ∃ k kt, ks = k :: kt := by
    cases ks with
    | nil => exact absurd rfl hne
    | cons k kt => exact ⟨k, kt, rfl⟩
  have hKH := Lib.hid hK
  have hPH := Lib.hid hP
  have hrH := Lib.hid hr
  have hhlt := hr.lt
  have hfull := Lib.hid (List.take_length (l := k :: kt))
  have hst := Lib.hid (stp_op3 s s0 s1 s2 s3 mn mx (k :: kt))
  have hof := Lib.hid (fun w v h P a b c => often_r s hs 3 s0 s1 s2 s3 mn mx k kt (hk k List.mem_cons_self) hmn hmx0 hmx w v h P a b c)
  have hnn : IsN w (.mk 3 s0 s1 s2 s3 mn mx (k :: kt)) (ndVal (.mk 3 s0 s1 s2 s3 mn mx (k :: kt)) (.slice A (k :: kt).length c)) := ⟨A, c, rfl, hc, hlen, hK⟩
  have hnnH := Lib.hid hnn
  clear hk hmn hmx0 hmx hne hnn
  rw [hst.out]
  clear hK hP hr
  show Calls Try.prog 39 #[.agg (boxC 3 s0 s1 s2 s3 mn mx (.slice A (k :: kt).length c)), .string s, pv s.size h] w _
  go_enter Try.func39, Try.ntmps39
  go_upto_region 2 with (refine wpList_make_exact rfl (.tmp 14) (.tmp 14) 55 rfl 4 (.bool false) 1 Try.underlying55 info4 (s.size + 1) _ rfl rfl (by simp) (by omega) (by omega) ?_)
  have hX1 := Lib.hid ((Blk.new w 28 (boxC 3 s0 s1 s2 s3 mn mx (.slice A (k :: kt).length c))).alloc (.cells (madeCells #[.bool false] (s.size + 1)) 4))
  have hB1 := Lib.hid (below_alloc (below_alloc (Below.refl w.heap.size w) (.cells (boxC 3 s0 s1 s2 s3 mn mx (.slice A (k :: kt).length c)) 28)) (.cells (madeCells #[.bool false] (s.size + 1)) 4))
  have hO1 : Hid (Blk ((w.alloc (.cells (boxC 3 s0 s1 s2 s3 mn mx (.slice A (k :: kt).length c)) 28)).alloc (.cells (madeCells #[.bool false] (s.size + 1)) 4)) (w.heap.size + 1) 4 (arB s.size (fun _ => false))) := Lib.hid (by
    have hb := Blk.new (w.alloc (.cells (boxC 3 s0 s1 s2 s3 mn mx (.slice A (k :: kt).length c)) 28)) 4 (madeCells #[.bool false] (s.size + 1))
    rw [arB_made, World.size_alloc] at hb
    rw [arB_made]
    exact hb)
  have hL1 := Lib.hid (hrH.out.below hB1.out hhlt)
  have hgl0 : w.heap.size < w.heap.size + 1 := by omega
  have hne : h ≠ w.heap.size + 1 := by omega
  generalize w.heap.size + 1 = g at *
  generalize (w.alloc (.cells (boxC 3 s0 s1 s2 s3 mn mx (.slice A (k :: kt).length c)) 28)).alloc (.cells (madeCells #[.bool false] (s.size + 1)) 4) = W1 at *
  have e0 : W1.cell? ⟨w.heap.size, 0, none⟩ = some (.int .i64 3) := hX1.out.cell 0
  have hNp := Lib.hid (hnnH.out.below hB1.out)
  have e1 := hX1.out.cell 1
  have e2 := hX1.out.cell 2
  have e3 := hX1.out.cell 3
  have e4 := hX1.out.cell 4
  have e5 := hX1.out.cell 5
  have e6 := hX1.out.cell 6
  have e7 := hX1.out.cell 7
  simp only [List.getElem?_toArray, List.getElem?_cons_zero, List.getElem?_cons_succ] at e1 e2 e3 e4 e5 e6 e7
  clear hO1 hnnH
  go_wp2_with (go_at_call 42; refine (hof.out _ _ h P hNp.out hPH.out hL1.out).mono ?_; rintro e W8 ⟨gx, rfl, hgx, hO8, hB8⟩; have hB8H := Lib.hid (below_then hB1.out hB1.out.size hB8); have hO8H := Lib.hid hO8; have hgx2 : w.heap.size ≤ gx := Nat.le_trans hB1.out.size hgx; clear hB8 hO8 hgx)
  go_ret
  exact ⟨gx, rfl, hgx2, hO8H.out, hB8H.out⟩
set_option maxRecDepth 20000 in
set_option maxHeartbeats 4000000 in
theorem from_oth (s : ByteArray) (hs : s.size ≤ 1000000) (op s0 s1 s2 s3 mn mx : Int) (ks : List Nd) (hk : ∀ k ∈ ks, FromOk s k) (h5 : op = 5 → ks.length ≤ 1) (hop : op ≠ 0 ∧ op ≠ 1 ∧ op ≠ 2 ∧ op ≠ 3) : FromOk s (.mk op s0 s1 s2 s3 mn mx ks) := by
  intro w v h P hn hP hr
  obtain ⟨A, c, rfl, hc, hlen, hK⟩ := hn
  simp only [op_mk, s0_mk, s1_mk, s2_mk, s3_mk, mn_mk, mx_mk, kids_mk] at hc hlen hK ⊢
  have hKH := Lib.hid hK
  have hPH := Lib.hid hP
  have hrH := Lib.hid hr
  have hhlt := hr.lt
  have hfull := Lib.hid (List.take_length (l := ks))
  have hap := Lib.hid (fun w v a ha hn => apart_r s hs op s0 s1 s2 s3 mn mx ks hk h5 w v a ha hn)
  have hei := Lib.hid (fun g h P Q w hg hh => either_c s.size hs g h P Q w hg hh)
  have hnn : IsN w (.mk op s0 s1 s2 s3 mn mx ks) (ndVal (.mk op s0 s1 s2 s3 mn mx ks) (.slice A ks.length c)) := ⟨A, c, rfl, hc, hlen, hK⟩
  have hnnH := Lib.hid hnn
  have hF : ∀ j, j ≤ s.size → stp s (.mk op s0 s1 s2 s3 mn mx ks) P j = (List.range (s.size + 1)).any (fun a => P a && apP s (decide (op = 5)) ks a j) := fun j hj => oth_any s op s0 s1 s2 s3 mn mx ks hop P j hj
  generalize stp s (.mk op s0 s1 s2 s3 mn mx ks) P = F at *
  have hFH := Lib.hid hF
  have b0 : (op == 0) = false := beq_false_of_ne hop.1
  have b1 : (op == 1) = false := beq_false_of_ne hop.2.1
  have b2 : (op == 2) = false := beq_false_of_ne hop.2.2.1
  have b3 : (op == 3) = false := beq_false_of_ne hop.2.2.2
  obtain ⟨AP, hAP⟩ : ∃ AP, AP = apP s (decide (op = 5)) ks := ⟨_, rfl⟩
  rw [← hAP] at hap hFH
  clear hk h5 hnn hF hAP hop
  clear hK hP hr
  show Calls Try.prog 39 #[.agg (boxC op s0 s1 s2 s3 mn mx (.slice A ks.length c)), .string s, pv s.size h] w _
  go_enter Try.func39, Try.ntmps39
  go_upto_region 2 with (refine wpList_make_exact rfl (.tmp 14) (.tmp 14) 55 rfl 4 (.bool false) 1 Try.underlying55 info4 (s.size + 1) _ rfl rfl (by simp) (by omega) (by omega) ?_)
  have hX1 := Lib.hid ((Blk.new w 28 (boxC op s0 s1 s2 s3 mn mx (.slice A ks.length c))).alloc (.cells (madeCells #[.bool false] (s.size + 1)) 4))
  have hB1 := Lib.hid (below_alloc (below_alloc (Below.refl w.heap.size w) (.cells (boxC op s0 s1 s2 s3 mn mx (.slice A ks.length c)) 28)) (.cells (madeCells #[.bool false] (s.size + 1)) 4))
  have hO1 : Hid (Blk ((w.alloc (.cells (boxC op s0 s1 s2 s3 mn mx (.slice A ks.length c)) 28)).alloc (.cells (madeCells #[.bool false] (s.size + 1)) 4)) (w.heap.size + 1) 4 (arB s.size (fun _ => false))) := Lib.hid (by
    have hb := Blk.new (w.alloc (.cells (boxC op s0 s1 s2 s3 mn mx (.slice A ks.length c)) 28)) 4 (madeCells #[.bool false] (s.size + 1))
    rw [arB_made, World.size_alloc] at hb
    rw [arB_made]
    exact hb)
  have hL1 := Lib.hid (hrH.out.below hB1.out hhlt)
  have hgl0 : w.heap.size < w.heap.size + 1 := by omega
  have hne : h ≠ w.heap.size + 1 := by omega
  generalize w.heap.size + 1 = g at *
  generalize (w.alloc (.cells (boxC op s0 s1 s2 s3 mn mx (.slice A ks.length c)) 28)).alloc (.cells (madeCells #[.bool false] (s.size + 1)) 4) = W1 at *
  have e0 : W1.cell? ⟨w.heap.size, 0, none⟩ = some (.int .i64 op) := hX1.out.cell 0
  go_wp2
  clear e0 b0 b1 b2 b3
  go_loopw [7, 11] (fun oo ii wr => ∃ i go : Nat, i ≤ s.size + 1 ∧ w.heap.size ≤ go ∧ ii = .int .i64 i ∧ oo = pv s.size go ∧ Hid (Blk wr go 4 (arB s.size (fun j => (List.range i).any (fun a => P a && AP a j)))) ∧ Hid (Below w.heap.size w wr) ∧ Hid (Blk wr w.heap.size 28 (boxC op s0 s1 s2 s3 mn mx (.slice A ks.length c)))) (fun _ ii _ => s.size + 1 - (intOf ii).toNat)
  case atStart => exact ⟨0, g, by omega, Nat.le_of_lt hgl0, rfl, rfl, Lib.hid (hO1.out.eqB (fun j _ => by simp)), hB1, hX1⟩
  case round =>
    clear hO1 hB1 hX1 hL1
    obtain ⟨i, go, hi, hgo, rfl, rfl, hO, hB, hX⟩ := hrel
    obtain ⟨wp, rfl⟩ : ∃ wp : World, wp = wr := ⟨_, rfl⟩
    by_cases hlt : i < s.size + 1
    · have hd2 : decide ((i : Int) < ((s.size + 1 : Nat) : Int)) = true := decide_eq_true (by omega)
      have hj0 : (0 : Int) ≤ (i : Int) := by omega
      have hj1 : (i : Int) < ((s.size + 1 : Nat) : Int) := by omega
      have hL := Lib.hid (hrH.out.below hB.out hhlt)
      have hNp := Lib.hid (hnnH.out.below hB.out)
      have hcl := hL.out.cellB i (by omega)
      have hun := Lib.hid (fun (b : Bool) (hb : P i = b) (j : Nat) => show (List.range (i + 1)).any (fun a => P a && AP a j) = ((List.range i).any (fun a => P a && AP a j) || (b && AP i j)) by rw [List.range_succ, List.any_append, ← hb]; simp)
      have his : i ≤ s.size := by omega
      cases hpi : P i with
      | true =>
        rw [hpi] at hcl
        have hpiH := Lib.hid hpi
        clear hpi
        obtain ⟨e0, e1, e2, e3, e4, e5, e6, e7⟩ := cells8_of hX.out
        go_wp2_with (first
          | (go_at_call 43; refine (hap.out _ _ i his hNp.out).mono ?_; rintro e W8 ⟨gx, rfl, hgx, hO8, hB8⟩; have hB8H := Lib.hid (below_then hB.out hB.out.size hB8); have hX8 := Lib.hid (hX.out.below hB8 hX.out.lt); have hA8 := Lib.hid (hO.out.below hB8 hO.out.lt); have hO8H := Lib.hid hO8; clear hB8 hO8 hgx e0 e1 e2 e3 e4 e5 e6 e7 hcl)
          | (go_at_call 41; refine (hei.out go gx _ _ _ hA8.out hO8H.out).mono ?_; rintro e W9 ⟨gy, rfl, hgy, hO9, hB9⟩; have hB9H := Lib.hid (below_then hB8H.out hB8H.out.size hB9); have hX9 := Lib.hid (hX8.out.below hB9 hX8.out.lt); have hO9H := Lib.hid (hO9.eqB (Q := fun j => (List.range (i + 1)).any (fun a => P a && AP a j)) (fun j _ => by rw [hun.out true hpiH.out j]; simp [orP])); have hgy2 : w.heap.size ≤ gy := Nat.le_trans hB8H.out.size hgy; clear hB9 hO9 hgy))
        go_roundw
        case rel => exact ⟨i + 1, gy, by omega, hgy2, by go_num, rfl, hO9H, hB9H, hX9⟩
        case measure => simp [intOf]; omega
      | false =>
        rw [hpi] at hcl
        have hO2 := Lib.hid (hO.out.eqB (Q := fun j => (List.range (i + 1)).any (fun a => P a && AP a j)) (fun j _ => by rw [hun.out false hpi j]; simp))
        have hpiH := Lib.hid hpi
        clear hpi hO
        go_wp2
        go_roundw
        case rel => exact ⟨i + 1, go, by omega, hgo, by go_num, rfl, hO2, hB, hX⟩
        case measure => simp [intOf]; omega
    · have hd2 : decide ((i : Int) < ((s.size + 1 : Nat) : Int)) = false := decide_eq_false (by omega)
      have hil : i = s.size + 1 := by omega
      have hE := Lib.hid (hO.out.eqB (Q := F) (fun j hj => by rw [hFH.out j hj, hil]))
      clear hil hO
      go_wp2
      go_ret
      exact ⟨go, rfl, hgo, hE.out, hB.out⟩
mutual
theorem from_c (s : ByteArray) (hs : s.size ≤ 1000000) : ∀ n : Nd, Gd n → FromOk s n
  | .mk op s0 s1 s2 s3 mn mx ks, hG => by
    obtain ⟨h1, h2, h3, h4, h5⟩ := (Gd_mk _ _ _ _ _ _ _ _).1 hG
    have hk := froms_c s hs ks h5
    by_cases o0 : op = 0
    · exact from_set s hs op s0 s1 s2 s3 mn mx ks h4 o0
    by_cases o1 : op = 1
    · exact from_cat s hs op s0 s1 s2 s3 mn mx ks hk o1
    by_cases o2 : op = 2
    · exact from_alt s hs op s0 s1 s2 s3 mn mx ks hk o2
    by_cases o3 : op = 3
    · exact from_rep s hs op s0 s1 s2 s3 mn mx ks hk o3 (by
        rcases h1 with ⟨a, _⟩ | a | a | ⟨_, b⟩ | a | ⟨a, _⟩
        · omega
        · omega
        · omega
        · intro e; rw [e] at b; cases b
        · omega
        · omega) (by omega) (by omega) (by omega)
    · refine from_oth s hs op s0 s1 s2 s3 mn mx ks hk (fun e => ?_) ⟨o0, o1, o2, o3⟩
      rcases h1 with ⟨a, _⟩ | a | a | ⟨a, _⟩ | a | ⟨_, b⟩
      · omega
      · omega
      · omega
      · omega
      · omega
      · omega
theorem froms_c (s : ByteArray) (hs : s.size ≤ 1000000) : ∀ ks : List Nd, (∀ k ∈ ks, Gd k) → ∀ k ∈ ks, FromOk s k
  | [], _, _, h => by cases h
  | k :: ks, hG, x, h => by
    rcases List.mem_cons.1 h with e | h
    · exact e ▸ from_c s hs k (hG k List.mem_cons_self)
    · exact froms_c s hs ks (fun y hy => hG y (List.mem_cons_of_mem _ hy)) x h
end
end Go.Proofs.Ytimhiacjoplkeaa
