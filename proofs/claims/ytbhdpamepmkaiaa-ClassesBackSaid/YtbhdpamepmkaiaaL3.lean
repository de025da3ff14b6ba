/- homographlaw10.ClassesOf: its walk. Own text. -/
import Derived.Test.YtbhdpamepmkaiaaHold
namespace Go.Proofs.Ytbhdpamepmkaiaa
open Go.RowKit Go.Proofs.Ytbhdpamepmkaiaa.P Go.Proofs.Ytbhdpamepmkaiaa.Plain Go.Proofs.YtbhdpamepmkaiaaW.PrintWords Go.Proofs.YtbhdpamepmkaiaaW.PrintLast Go.Proofs.YtbhdpamepmkaiaaW.PrintMore
set_option linter.unusedVariables false
set_option linter.unusedSimpArgs false

theorem IsT.rows {w : World} {v : Value} {t : List (List Int)} (h : IsT w v t) : ∀ r ∈ t, r.length ≤ 9223372036854775807 := by
  obtain ⟨A, c, _, _, hC⟩ := h
  intro r hr
  obtain ⟨i, hi, rfl⟩ := List.getElem_of_mem hr
  obtain ⟨ad, A0, c0, _, _, _, h3⟩ := at_L6 hC (i : Int) (by omega) (by omega)
  have e : rd_L6 t (i : Int) = t[i] := by simp [rd_L6, List.getD_eq_getElem?_getD, hi]
  rw [e] at h3
  exact h3.2.1
/-- A table that is read twice is the same. -/
theorem tsame_c {w : World} {v v' : Value} {t : List (List Int)} (h : IsT w v t) (h' : IsT w v' t) : Calls Try.prog 12 #[v, v'] w fun e w' => e = .returned (.bool true) ∧ Below w.heap.size w w' := by
  have hrows := h.rows
  obtain ⟨A, c, rfl, h2, h3⟩ := h
  obtain ⟨A', c', rfl, h2', h3'⟩ := h'
  obtain ⟨k, hk⟩ := tsame_f t h3.2.1 hrows
  exact (homographref10_Same.calls k A c t A' c' t true w h3 h2 h3' h2' hk).mono fun e w' ⟨h1, h2⟩ => ⟨h1, h2.below⟩
theorem manyL_firsts (m : List S48) : manyL m m.length = (firsts (sig m m.length) 256).length := (partL_num m m.length).2

theorem range_of {w : World} {g : Nat} {t : TypeId} {L : List Value} (h : Blk w g t L.toArray) : w.rangeAt g 0 L := fun j v hv => by
  rw [Nat.zero_add, h.cell j]; simpa using hv
theorem hold3 {W w' : World} {g6 g8 g0 : Nat} {CL RL : List Value} (h6 : Blk W g6 24 CL.toArray) (h8 : Blk W g8 24 CL.toArray) (h0 : Blk W g0 24 RL.toArray) (hb : Below W.heap.size W w') :
    w'.rangeAt g6 0 CL ∧ w'.rangeAt g8 0 CL ∧ w'.rangeAt g0 0 RL := ⟨range_of (h6.below hb h6.lt), range_of (h8.below hb h8.lt), range_of (h0.below hb h0.lt)⟩
theorem conv_c {w : World} {A : Option Addr} {n c : Nat} {xs : List Int} (h : (Kd.int .u8).C w A n xs) : (convert 28 9 (.slice A n c)).run Try.prog w = .ok (.string (strOfNums xs)) w :=
  Kd.C_string (P := Try.prog) (src := 28) (dst := 9) (e := 5) Try.underlying28 Try.underlying5 Try.underlying9 h

set_option maxRecDepth 20000 in
set_option maxHeartbeats 600000 in
theorem classesOf_c {w : World} {v : Value} {m : List S48} (h : IsM w v m) (raw : List Int) (hl : raw.length = 256) (hr : ∀ x ∈ raw, 0 ≤ x ∧ x ≤ 255) :
    Calls Try.prog 3 #[v, .agg (arI .u8 raw)] w fun e w' => e = .returned (.bool true) ∧ Below w.heap.size w w' := by
  have hM := Lib.hid h
  have hR0 := Lib.hid (Blk.new w 24 (arI .u8 raw))
  have hB0 := Lib.hid (below_alloc (Below.refl w.heap.size w) (.cells (arI .u8 raw) 24))
  have hlw := Lib.hid (fun W : World => classes_Lows.calls raw hl hr W)
  have hlr := Lib.hid (fun W : World => ref_Lows_calls raw hl hr W)
  have hszr : (Try.prog.info? 24).map (·.size) = some (raw.map (Value.int .u8)).length := by rw [List.length_map, hl]; exact size24'
  have hMl := h.len
  obtain ⟨A, c, rfl, h2, h3⟩ := h
  clear h2 h3 hl hr
  unfold arI at hR0 hB0 hlw hlr ⊢
  generalize raw.map (Value.int .u8) = RL at *
  by_cases hm : m.length ≤ 12
  · have hd : decide ((12 : Int) < (m.length : Int)) = false := decide_eq_false (by omega)
    have hof := Lib.hid (fun (W : World) (hW : IsM W (.slice A m.length c) m) => of_c hW (by omega))
    have hrof := Lib.hid (fun (W : World) (hW : IsM W (.slice A m.length c) m) => rof_c hW (by omega))
    rw [partL_cls, manyL_firsts] at hof
    have hcw := Lib.hid (fun W : World => classes_Lows.calls (cls m) (cls_len m) (cls_bd m) W)
    have hcr := Lib.hid (fun W : World => ref_Lows_calls (cls m) (cls_len m) (cls_bd m) W)
    have hszL : (Try.prog.info? 24).map (·.size) = some ((cls m).map (Value.int .u8)).length := by rw [List.length_map, cls_len]; exact size24'
    have hsz : (Try.prog.info? 24).map (·.size) = some (arI .u8 (cls m)).size := by rw [arI_size, cls_len]; exact size24'
    have hsz0 : zerosB.size = (arI .u8 (cls m)).size := by rw [arI_size, cls_len]; rfl
    have hone := arI_one .u8 (cls m)
    have hu24 := Try.underlying24
    have heq := eq24_same (cls m) (cls_len m)
    have htb := Lib.hid (fun (W : World) (hW : IsM W (.slice A m.length c) m) => table_c hW (by omega))
    have hrt := Lib.hid (fun (W : World) (hW : IsM W (.slice A m.length c) m) => rtable_c hW (by omega))
    have hg24 := guard24
    unfold arI at hof hrof hcw hcr hsz hsz0 hone heq
    generalize hA : (cls m).map (Value.int .u8) = CL at *
    generalize hLL : lowsL (cls m) = LC at *
    generalize hRR : lowsL raw = LR at *
    generalize hTT : tabM m = TT at *
    generalize hF : (firsts (sig m m.length) 256).length = F at *
    clear hA hF hLL hRR hTT
    go_enter Try.func3, Try.ntmps3
    go_wp2_with (go_at_call 7; refine (awake_c _).mono ?_; rintro e w1 ⟨rfl, hb1⟩; have hM1 := Lib.hid ((hM.out.below hB0.out).below hb1); have hR1 := Lib.hid (hR0.out.below hb1 hR0.out.lt); have hB1 := Lib.hid (below_then hB0.out hB0.out.size hb1); clear hb1)
    go_upto_region 8 with (first
      | (go_at_call 8; refine (hof.out _ hM1.out).mono ?_; rintro e w2 ⟨rfl, hb2⟩; have hM2 := Lib.hid (hM1.out.below hb2); have hR2 := Lib.hid (hR1.out.below hb2 hR1.out.lt); have hB2 := Lib.hid (below_then hB1.out hB1.out.size hb2); clear hb2)
      | (refine wpList_alloc_arr rfl 24 rfl zerosB zero24 ?_)
      | (refine wpList_store_row rfl 24 (.tmp 6) (.tmp 19) rfl w2.heap.size _ rfl rfl 24 zerosB (Blk.new w2 24 zerosB) hsz hsz0 hone ?_; have hb3 := below_setRow0' w2 zerosB 24 CL.toArray; have hM3 := Lib.hid (hM2.out.below hb3); have hR3 := Lib.hid (hR2.out.below hb3 hR2.out.lt); have hB3 := Lib.hid (below_then hB2.out hB2.out.size hb3); have hK3 := Lib.hid ((Blk.new w2 24 zerosB).setRow_ CL.toArray); clear hb3)
      | (go_at_call 9; refine (hrof.out _ hM3.out).mono ?_; rintro e w4 ⟨rfl, hb4⟩; have hM4 := Lib.hid (hM3.out.below hb4); have hR4 := Lib.hid (hR3.out.below hb4 hR3.out.lt); have hB4 := Lib.hid (below_then hB3.out hB3.out.size hb4); have hK4 := Lib.hid (hK3.out.below hb4 hK3.out.lt); clear hb4)
      | (refine wpList_store_row rfl 24 (.tmp 8) (.tmp 24) rfl w4.heap.size _ rfl rfl 24 zerosB (Blk.new w4 24 zerosB) hsz hsz0 hone ?_; have hb5 := below_setRow0' w4 zerosB 24 CL.toArray; have hM5 := Lib.hid (hM4.out.below hb5); have hR5 := Lib.hid (hR4.out.below hb5 hR4.out.lt); have hB5 := Lib.hid (below_then hB4.out hB4.out.size hb5); have hK5 := Lib.hid (hK4.out.below hb5 hK4.out.lt); have hJ5 := Lib.hid ((Blk.new w4 24 zerosB).setRow_ CL.toArray); clear hb5))
    have hz5 := hB5.out.size
    generalize hW5 : (w4.alloc (Obj.cells zerosB 24)).setRow w4.heap.size CL.toArray = W5 at *
    clear hW5
    have hb5d : Below W5.heap.size W5 W5.drew := below_drew1 (Below.refl _ _)
    have hr6 : ∀ w', Below W5.heap.size W5 w' → w'.rangeAt w2.heap.size 0 CL := fun w' h => range_of (hK5.out.below h hK5.out.lt)
    have hr8 : ∀ w', Below W5.heap.size W5 w' → w'.rangeAt w4.heap.size 0 CL := fun w' h => range_of (hJ5.out.below h hJ5.out.lt)
    have hr0 : ∀ w', Below W5.heap.size W5 w' → w'.rangeAt w.heap.size 0 RL := fun w' h => range_of (hR5.out.below h hR5.out.lt)
    refine wp_region_held_drew (S := fun w' => Below W5.heap.size W5 w') (by kernel_rfl) hb5d (fun hS => ?_)
    refine hold_take (i := 0) rfl (by kernel_rfl) (by kernel_rfl) (by kernel_rfl) (fun _ _ _ h => h) (yieldsIf_load_mid (by rfl) _ _ rfl _ _ rfl _ _ hr6 hu24 rfl hszL) hS ?_
    (try dsimp only [Act.put])
    (try simp only [Act.put, List.setIfInBounds_toArray, List.set_cons_zero, List.set_cons_succ])
    refine hold_take (i := 1) rfl (by kernel_rfl) (by kernel_rfl) (by kernel_rfl) (fun _ _ _ h => h) (yieldsIf_load_mid (by rfl) _ _ rfl _ _ rfl _ _ hr8 hu24 rfl hszL) hS ?_
    (try dsimp only [Act.put])
    (try simp only [Act.put, List.setIfInBounds_toArray, List.set_cons_zero, List.set_cons_succ])
    refine hold_take (i := 2) (v := ?_) rfl (by kernel_rfl) (by kernel_rfl) (by kernel_rfl) (fun _ _ _ h => h) (Or.inl ⟨by rfl, ?_⟩) hS ?_
    rotate_left
    · intro w hSw; go_simp; try with_reducible rfl
    (try dsimp only [Act.put])
    (try simp only [Act.put, List.setIfInBounds_toArray, List.set_cons_zero, List.set_cons_succ])
    refine hold_take (i := 3) (v := ?_) rfl (by kernel_rfl) (by kernel_rfl) (by kernel_rfl) (fun _ _ _ h => h) (Or.inl ⟨by rfl, ?_⟩) hS ?_
    rotate_left
    · intro w hSw; go_simp; try with_reducible rfl
    (try dsimp only [Act.put])
    (try simp only [Act.put, List.setIfInBounds_toArray, List.set_cons_zero, List.set_cons_succ])
    refine hold_take (i := 4) (v := ?_) rfl (by kernel_rfl) (by kernel_rfl) (by kernel_rfl) (fun _ _ _ h => h) (Or.inl ⟨by rfl, ?_⟩) hS ?_
    rotate_left
    · intro w hSw; go_simp; try with_reducible rfl
    (try dsimp only [Act.put])
    (try simp only [Act.put, List.setIfInBounds_toArray, List.set_cons_zero, List.set_cons_succ])
    refine hold_take (i := 5) (v := ?_) rfl (by kernel_rfl) (by kernel_rfl) (by kernel_rfl) (fun _ _ _ h => h) (Or.inl ⟨by rfl, ?_⟩) hS ?_
    rotate_left
    · intro w hSw; go_simp; try with_reducible rfl
    (try dsimp only [Act.put])
    (try simp only [Act.put, List.setIfInBounds_toArray, List.set_cons_zero, List.set_cons_succ])
    refine hold_take (i := 6) (v := ?_) rfl (by kernel_rfl) (by kernel_rfl) (by kernel_rfl) (fun _ _ _ h => h) (Or.inl ⟨by rfl, ?_⟩) hS ?_
    rotate_left
    · intro w hSw; go_simp; try with_reducible rfl
    (try dsimp only [Act.put])
    (try simp only [Act.put, List.setIfInBounds_toArray, List.set_cons_zero, List.set_cons_succ])
    refine hold_take (i := 7) (v := ?_) rfl (by kernel_rfl) (by kernel_rfl) (by kernel_rfl) (fun _ _ _ h => h) (Or.inl ⟨by rfl, ?_⟩) hS ?_
    rotate_left
    · intro w hSw; go_simp; try with_reducible rfl
    (try dsimp only [Act.put])
    (try simp only [Act.put, List.setIfInBounds_toArray, List.set_cons_zero, List.set_cons_succ])
    refine hold_take (i := 8) (v := ?_) rfl (by kernel_rfl) (by kernel_rfl) (by kernel_rfl) (fun _ _ _ h => h) (Or.inl ⟨by rfl, ?_⟩) hS ?_
    rotate_left
    · intro w hSw; go_simp; try with_reducible rfl
    (try dsimp only [Act.put])
    (try simp only [Act.put, List.setIfInBounds_toArray, List.set_cons_zero, List.set_cons_succ])
    refine hold_take (i := 9) rfl (by kernel_rfl) (by kernel_rfl) (by kernel_rfl) (fun _ _ _ h => h) (yieldsIf_load_mid (by rfl) _ _ rfl _ _ rfl _ _ hr6 hu24 rfl hszL) hS ?_
    (try dsimp only [Act.put])
    (try simp only [Act.put, List.setIfInBounds_toArray, List.set_cons_zero, List.set_cons_succ])
    have hd5 := hS
    refine hold_take (i := 12) rfl (by kernel_rfl) (by kernel_rfl) (by kernel_rfl) (fun _ _ _ h => h) (yieldsIf_load_mid (by rfl) _ _ rfl _ _ rfl _ _ hr8 hu24 rfl hszL) hS ?_
    (try dsimp only [Act.put])
    (try simp only [Act.put, List.setIfInBounds_toArray, List.set_cons_zero, List.set_cons_succ])
    refine hold_call_ (i := 10) (by kernel_rfl) rfl (by rfl) (fun w6 w' => Below w6.heap.size w6 w') ?_
    intro K hK
    go_simp
    go_at_call 10
    refine (hcw.out _).mono ?_
    rintro e w6 ⟨v6, rfl, hl6, hb6⟩
    replace hb6 : Below W5.heap.size W5 w6 := below_then hb5d hb5d.size hb6
    refine hK _ _ hb6 (fun w2 h => below_then hb6 hb6.size h) ?_
    have hd6 := hb6
    have hS6 := Below.refl w6.heap.size w6
    clear hK K
    obtain ⟨A6, c6, hv6, _, hC6⟩ := Kd.R_reads hl6
    subst hv6
    refine hold_take (i := 11) (v := ?_) rfl (by kernel_rfl) (by kernel_rfl) (by kernel_rfl) (fun _ _ _ h => h) (Or.inl ⟨by rfl, ?_⟩) hS6 ?_
    rotate_left
    · intro w' hSw; have hcv := conv_c (c := c6) (Kd.C_below hC6 hSw); go_simp; try with_reducible rfl
    (try dsimp only [Act.put])
    (try simp only [Act.put, List.setIfInBounds_toArray, List.set_cons_zero, List.set_cons_succ])
    refine hold_call_ (i := 13) (by kernel_rfl) rfl (by rfl) (fun w6 w' => Below w6.heap.size w6 w') ?_
    intro K hK
    go_simp
    go_at_call 11
    refine (hcr.out _).mono ?_
    rintro e w7 ⟨v7, rfl, hl7, hb7⟩
    refine hK _ _ hb7 (fun w2 h => below_then hb7 hb7.size h) ?_
    have hd7 := below_then hd6 hd6.size hb7
    have hS7 := Below.refl w7.heap.size w7
    clear hK K
    obtain ⟨A7, c7, hv7, _, hC7⟩ := Kd.R_reads hl7
    subst hv7
    refine hold_take (i := 14) (v := ?_) rfl (by kernel_rfl) (by kernel_rfl) (by kernel_rfl) (fun _ _ _ h => h) (Or.inl ⟨by rfl, ?_⟩) hS7 ?_
    rotate_left
    · intro w' hSw; have hcv := conv_c (c := c7) (Kd.C_below hC7 hSw); go_simp; try with_reducible rfl
    (try dsimp only [Act.put])
    (try simp only [Act.put, List.setIfInBounds_toArray, List.set_cons_zero, List.set_cons_succ])
    refine hold_take (i := 15) (v := ?_) rfl (by kernel_rfl) (by kernel_rfl) (by kernel_rfl) (fun _ _ _ h => h) (Or.inl ⟨by rfl, ?_⟩) hS7 ?_
    rotate_left
    · intro w hSw; go_simp; try with_reducible rfl
    (try dsimp only [Act.put])
    (try simp only [Act.put, List.setIfInBounds_toArray, List.set_cons_zero, List.set_cons_succ])
    refine hold_take (i := 16) (v := ?_) rfl (by kernel_rfl) (by kernel_rfl) (by kernel_rfl) (fun _ _ _ h => h) (Or.inl ⟨by rfl, ?_⟩) hS7 ?_
    rotate_left
    · intro w hSw; go_simp; try with_reducible rfl
    (try dsimp only [Act.put])
    (try simp only [Act.put, List.setIfInBounds_toArray, List.set_cons_zero, List.set_cons_succ])
    refine hold_take (i := 17) (v := ?_) rfl (by kernel_rfl) (by kernel_rfl) (by kernel_rfl) (fun _ _ _ h => h) (Or.inl ⟨by rfl, ?_⟩) hS7 ?_
    rotate_left
    · intro w hSw; go_simp; try with_reducible rfl
    (try dsimp only [Act.put])
    (try simp only [Act.put, List.setIfInBounds_toArray, List.set_cons_zero, List.set_cons_succ])
    refine hold_take (i := 18) rfl (by kernel_rfl) (by kernel_rfl) (by kernel_rfl) (fun _ _ _ h => h) (yieldsIf_load_mid (by rfl) _ _ rfl _ _ rfl _ _ (fun w' h => hr0 w' (below_then hd7 hd7.size h)) hu24 rfl hszr) hS7 ?_
    (try dsimp only [Act.put])
    (try simp only [Act.put, List.setIfInBounds_toArray, List.set_cons_zero, List.set_cons_succ])
    refine hold_take (i := 21) rfl (by kernel_rfl) (by kernel_rfl) (by kernel_rfl) (fun _ _ _ h => h) (yieldsIf_load_mid (by rfl) _ _ rfl _ _ rfl _ _ (fun w' h => hr0 w' (below_then hd7 hd7.size h)) hu24 rfl hszr) hS7 ?_
    (try dsimp only [Act.put])
    (try simp only [Act.put, List.setIfInBounds_toArray, List.set_cons_zero, List.set_cons_succ])
    refine hold_call_ (i := 19) (by kernel_rfl) rfl (by rfl) (fun w6 w' => Below w6.heap.size w6 w') ?_
    intro K hK
    go_simp
    go_at_call 10
    refine (hlw.out _).mono ?_
    rintro e w8 ⟨v8, rfl, hl8, hb8⟩
    refine hK _ _ hb8 (fun w2 h => below_then hb8 hb8.size h) ?_
    have hd8 := below_then hd7 hd7.size hb8
    have hS8 := Below.refl w8.heap.size w8
    clear hK K
    obtain ⟨A8, c8, hv8, _, hC8⟩ := Kd.R_reads hl8
    subst hv8
    refine hold_take (i := 20) (v := ?_) rfl (by kernel_rfl) (by kernel_rfl) (by kernel_rfl) (fun _ _ _ h => h) (Or.inl ⟨by rfl, ?_⟩) hS8 ?_
    rotate_left
    · intro w' hSw; have hcv := conv_c (c := c8) (Kd.C_below hC8 hSw); go_simp; try with_reducible rfl
    (try dsimp only [Act.put])
    (try simp only [Act.put, List.setIfInBounds_toArray, List.set_cons_zero, List.set_cons_succ])
    refine hold_call_ (i := 22) (by kernel_rfl) rfl (by rfl) (fun w6 w' => Below w6.heap.size w6 w') ?_
    intro K hK
    go_simp
    go_at_call 11
    refine (hlr.out _).mono ?_
    rintro e w9 ⟨v9, rfl, hl9, hb9⟩
    refine hK _ _ hb9 (fun w2 h => below_then hb9 hb9.size h) ?_
    have hd9 := below_then hd8 hd8.size hb9
    have hS9 := Below.refl w9.heap.size w9
    clear hK K
    obtain ⟨A9, c9, hv9, _, hC9⟩ := Kd.R_reads hl9
    subst hv9
    refine hold_take (i := 23) (v := ?_) rfl (by kernel_rfl) (by kernel_rfl) (by kernel_rfl) (fun _ _ _ h => h) (Or.inl ⟨by rfl, ?_⟩) hS9 ?_
    rotate_left
    · intro w' hSw; have hcv := conv_c (c := c9) (Kd.C_below hC9 hSw); go_simp; try with_reducible rfl
    (try dsimp only [Act.put])
    (try simp only [Act.put, List.setIfInBounds_toArray, List.set_cons_zero, List.set_cons_succ])
    refine hold_take (i := 24) (v := ?_) rfl (by kernel_rfl) (by kernel_rfl) (by kernel_rfl) (fun _ _ _ h => h) (Or.inl ⟨by rfl, ?_⟩) hS9 ?_
    rotate_left
    · intro w hSw; go_simp; try with_reducible rfl
    (try dsimp only [Act.put])
    (try simp only [Act.put, List.setIfInBounds_toArray, List.set_cons_zero, List.set_cons_succ])
    refine hold_take (i := 25) (v := ?_) rfl (by kernel_rfl) (by kernel_rfl) (by kernel_rfl) (fun _ _ _ h => h) (Or.inl ⟨by rfl, ?_⟩) hS9 ?_
    rotate_left
    · intro w hSw; go_simp; try with_reducible rfl
    (try dsimp only [Act.put])
    (try simp only [Act.put, List.setIfInBounds_toArray, List.set_cons_zero, List.set_cons_succ])
    refine hold_take (i := 26) (v := ?_) rfl (by kernel_rfl) (by kernel_rfl) (by kernel_rfl) (fun _ _ _ h => h) (Or.inl ⟨by rfl, ?_⟩) hS9 ?_
    rotate_left
    · intro w hSw; go_simp; try with_reducible rfl
    (try dsimp only [Act.put])
    (try simp only [Act.put, List.setIfInBounds_toArray, List.set_cons_zero, List.set_cons_succ])
    refine hold_take (i := 27) (v := ?_) rfl (by kernel_rfl) (by kernel_rfl) (by kernel_rfl) (fun _ _ _ h => h) (Or.inl ⟨by rfl, ?_⟩) hS9 ?_
    rotate_left
    · intro w hSw; go_simp; try with_reducible rfl
    (try dsimp only [Act.put])
    (try simp only [Act.put, List.setIfInBounds_toArray, List.set_cons_zero, List.set_cons_succ])
    refine hold_take (i := 29) (v := ?_) rfl (by kernel_rfl) (by kernel_rfl) (by kernel_rfl) (fun _ _ _ h => h) (Or.inl ⟨by rfl, ?_⟩) hS9 ?_
    rotate_left
    · intro w hSw; go_simp; try with_reducible rfl
    (try dsimp only [Act.put])
    (try simp only [Act.put, List.setIfInBounds_toArray, List.set_cons_zero, List.set_cons_succ])
    refine hold_call_ (i := 28) (by kernel_rfl) rfl (by rfl) (fun w6 w' => Below w6.heap.size w6 w') ?_
    intro K hK
    go_simp
    go_at_call 13
    refine (htb.out _ (hM5.out.below hd9)).mono ?_
    rintro e w10 ⟨v10, rfl, hT10, hb10⟩
    refine hK _ _ hb10 (fun w2 h => below_then hb10 hb10.size h) ?_
    have hd10 := below_then hd9 hd9.size hb10
    have hS10 := Below.refl w10.heap.size w10
    clear hK K
    refine hold_call_ (i := 30) (by kernel_rfl) rfl (by rfl) (fun w6 w' => Below w6.heap.size w6 w') ?_
    intro K hK
    go_simp
    go_at_call 14
    refine (hrt.out _ (hM5.out.below hd10)).mono ?_
    rintro e w11 ⟨v11, rfl, hT11, hb11⟩
    refine hK _ _ hb11 (fun w2 h => below_then hb11 hb11.size h) ?_
    have hd11 := below_then hd10 hd10.size hb11
    have hS11 := Below.refl w11.heap.size w11
    clear hK K
    refine hold_call_ (i := 31) (by kernel_rfl) rfl (by rfl) (fun w6 w' => Below w6.heap.size w6 w') ?_
    intro K hK
    go_simp
    go_at_call 12
    refine (tsame_c (hT10.below hb11) hT11).mono ?_
    rintro e w12 ⟨rfl, hb12⟩
    refine hK _ _ hb12 (fun w2 h => below_then hb12 hb12.size h) ?_
    have hd12 := below_then hd11 hd11.size hb12
    have hS12 := Below.refl w12.heap.size w12
    clear hK K
    refine hold_take (i := 32) (v := ?_) rfl (by kernel_rfl) (by kernel_rfl) (by kernel_rfl) (fun _ _ _ h => h) (Or.inl ⟨by rfl, ?_⟩) hS12 ?_
    rotate_left
    · intro w hSw; go_simp; try with_reducible rfl
    (try dsimp only [Act.put])
    (try simp only [Act.put, List.setIfInBounds_toArray, List.set_cons_zero, List.set_cons_succ])
    refine hold_take (i := 33) (v := ?_) rfl (by kernel_rfl) (by kernel_rfl) (by kernel_rfl) (fun _ _ _ h => h) (Or.inl ⟨by rfl, ?_⟩) hS12 ?_
    rotate_left
    · intro w hSw; go_simp; try with_reducible rfl
    (try dsimp only [Act.put])
    (try simp only [Act.put, List.setIfInBounds_toArray, List.set_cons_zero, List.set_cons_succ])
    refine wpAnyH_done (by kernel_rfl) ?_ _
    go_wp2
    go_ret
    exact ⟨rfl, below_then hB5.out hB5.out.size hd12⟩
  · have hd : decide ((12 : Int) < (m.length : Int)) = true := decide_eq_true (by omega)
    go_enter Try.func3, Try.ntmps3
    go_wp2_with (go_at_call 7; refine (awake_c _).mono ?_; rintro e w1 ⟨rfl, hb1⟩)
    go_ret
    exact ⟨rfl, below_then hB0.out hB0.out.size hb1⟩
end Go.Proofs.Ytbhdpamepmkaiaa