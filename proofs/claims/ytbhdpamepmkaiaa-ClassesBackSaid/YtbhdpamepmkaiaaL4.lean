/- homographlaw10.ClassesBack: its walk. Own text. -/
import Derived.Test.YtbhdpamepmkaiaaL3
import Derived.Test.YtbhdpamepmkaiaaOpen
namespace Go.Proofs.Ytbhdpamepmkaiaa
open Go.RowKit Go.Proofs.Ytbhdpamepmkaiaa.P Go.Proofs.Ytbhdpamepmkaiaa.Plain Go.Proofs.YtbhdpamepmkaiaaW.PrintWords Go.Proofs.YtbhdpamepmkaiaaW.PrintLast Go.Proofs.YtbhdpamepmkaiaaW.PrintMore
set_option linter.unusedVariables false
set_option linter.unusedSimpArgs false

/-- The classes that few bytes tell, again and again. -/
def fillL (few : List Int) : List Int := if few.length = 0 then List.replicate 256 0 else (List.range 256).map fun b => few.getD (b % few.length) 0
theorem fillL_len (few : List Int) : (fillL few).length = 256 := by
  unfold fillL; split
  · rw [List.length_replicate]
  · rw [List.length_map, List.length_range]
theorem fillL_at (few : List Int) (h : few.length ≠ 0) (b : Nat) (hb : b < 256) : (fillL few).getD b 0 = few.getD (b % few.length) 0 := by
  rw [fillL, if_neg h, List.getD_eq_getElem?_getD, List.getElem?_map, List.getElem?_range hb]; rfl
theorem fillL_bd (few : List Int) (h : ∀ x ∈ few, 0 ≤ x ∧ x ≤ 255) : ∀ x ∈ fillL few, 0 ≤ x ∧ x ≤ 255 := by
  intro x hx
  unfold fillL at hx
  split at hx
  · rw [List.eq_of_mem_replicate hx]; omega
  · rename_i hn
    obtain ⟨b, _, rfl⟩ := List.mem_map.1 hx
    have hlt : b % few.length < few.length := Nat.mod_lt _ (by omega)
    rw [List.getD_eq_getElem?_getD, List.getElem?_eq_getElem hlt]
    exact h _ (List.getElem_mem _)

set_option maxRecDepth 20000 in
set_option maxHeartbeats 2000000 in
theorem classesBack_c {w : World} {vf vt : Value} {few : List Int} {t : List (List Int)} (hf : IsU .u8 w vf few) (hfb : ∀ x ∈ few, 0 ≤ x ∧ x ≤ 255) (ht : IsT w vt t) (s : ByteArray) (hs : s.size ≤ 9223372036854775807) :
    Calls Try.prog 4 #[vf, vt, .string s] w fun e w' => e = .returned (.bool true) ∧ Below w.heap.size w w' := by
  have hF := Lib.hid hf
  have hT := Lib.hid ht
  obtain ⟨A1, c1, rfl, hc1, hC1⟩ := hf
  obtain ⟨A2, c2, rfl, hc2, hC2⟩ := ht
  have hl1 : few.length ≤ 9223372036854775807 := hC1.2.1
  have hl2 : t.length ≤ 9223372036854775807 := hC2.2.1
  clear hc1 hC1 hc2 hC2
  by_cases h12 : 12 < t.length
  · have hd1 : decide ((12 : Int) < (t.length : Int)) = true := decide_eq_true (by omega)
    go_enter Try.func4, Try.ntmps4
    go_wp2_with (go_at_call 7; refine (awake_c _).mono ?_; rintro e w1 ⟨rfl, hb1⟩)
    go_ret
    exact ⟨rfl, hb1⟩
  · have hd1 : decide ((12 : Int) < (t.length : Int)) = false := decide_eq_false (by omega)
    by_cases h40 : 40 < s.size
    · have hd2 : decide ((40 : Int) < (s.size : Int)) = true := decide_eq_true (by omega)
      go_enter Try.func4, Try.ntmps4
      go_wp2_with (go_at_call 7; refine (awake_c _).mono ?_; rintro e w1 ⟨rfl, hb1⟩)
      go_ret
      exact ⟨rfl, hb1⟩
    · have hd2 : decide ((40 : Int) < (s.size : Int)) = false := decide_eq_false (by omega)
      have hPl := Lib.hid (fillL_len few)
      have hPg := Lib.hid (fillL_at few)
      have hPb := Lib.hid (fillL_bd few hfb)
      have hP0 := Lib.hid (fun h : few.length = 0 => (show fillL few = List.replicate 256 0 by rw [fillL, if_pos h]))
      go_enter Try.func4, Try.ntmps4
      generalize fillL few = PP at *
      go_wp2_with (first
        | (go_at_call 7; refine (awake_c _).mono ?_; rintro e w1 ⟨rfl, hb1⟩; have hF1 := Lib.hid (hF.out.below hb1); have hT1 := Lib.hid (hT.out.below hb1); have hB1 := Lib.hid hb1; clear hb1)
        | (refine wpList_alloc_arr rfl 24 rfl zerosB zero24 ?_))
      go_loopw [9] (fun bb wr => ∃ b : Nat, b ≤ 256 ∧ bb = .int .i64 b ∧ (few.length = 0 → b = 0) ∧ Hid (Blk wr w1.heap.size 24 (arI .u8 (outL PP b))) ∧ Hid (Below w1.heap.size w1 wr)) (fun bb _ => 256 - (intOf bb).toNat)
      case atStart =>
        refine ⟨0, by omega, rfl, fun _ => rfl, ?_, Lib.hid (below_alloc (Below.refl _ _) _)⟩
        rw [outL_zero]; exact Blk.new w1 24 zerosB
      case round =>
        obtain ⟨b, hb, rfl, hb0, hB, hbo⟩ := hrel
        by_cases hgo : b < 256 ∧ few.length ≠ 0
        · obtain ⟨hlb, hn0⟩ := hgo
          have hdb : decide ((b : Int) < 256) = true := decide_eq_true (by omega)
          have hdn : decide ((0 : Int) < (few.length : Int)) = true := decide_eq_true (by omega)
          have hne : ((few.length : Int) == 0) = false := by rw [beq_eq_false_iff_ne]; omega
          have hmod : Int.tmod (b : Int) (few.length : Int) = ((b % few.length : Nat) : Int) := by rw [Int.tmod_eq_emod_of_nonneg (Int.natCast_nonneg b)]; rfl
          have hk : b % few.length < few.length := Nat.mod_lt _ (by omega)
          have hx := hPg.out hn0 b hlb
          obtain ⟨ad, hA, hce⟩ := (hF1.out.below hbo.out).at_ (b % few.length) hk
          subst hA
          rw [← hx] at hce
          clear hx
          generalize b % few.length = k at *
          have hkn : (k : Int) < (few.length : Int) := by omega
          have hsetp := Lib.hid (outL_step PP hPl.out b hlb)
          have hlO := outL_len' PP b hb hPl.out
          have hc1 := hB.out.cellI b (by rw [hlO]; exact hlb)
          have hf1 := hB.out.frozen b
          have hB2 := Lib.hid (hB.out.setI b (PP.getD b 0))
          rw [hsetp.out] at hB2
          clear hlO
          generalize PP.getD b 0 = x at *
          generalize (outL PP b).getD b 0 = old at hc1
          go_wp2
          go_roundw
          case rel => exact ⟨b + 1, by omega, by go_num, fun h => absurd h hn0, hB2, Lib.hid (hbo.out.setCell (by simp) _)⟩
          case measure => simp [intOf]; omega
        · have hPP : outL PP b = PP := by
            by_cases hn0 : few.length = 0
            · rw [hb0 hn0, outL_zero, hP0.out hn0]
            · obtain rfl : b = 256 := by omega
              exact outL_full PP hPl.out
          rw [hPP] at hB
          by_cases hlb : b < 256
          · have hdb : decide ((b : Int) < 256) = true := decide_eq_true (by omega)
            have hdn : decide ((0 : Int) < (few.length : Int)) = false := decide_eq_false (by omega)
            have hu24 := Try.underlying24
            have hszL : (Try.prog.info? 24).map (·.size) = some (PP.map (Value.int .u8)).length := by rw [List.length_map, hPl.out]; exact size24'
            have hbk := Lib.hid (fun (W : World) (v ev : Value) (en : List Int) (h : IsT W v t) (he : IsU .u64 W ev en) => back_c h PP hPl.out hPb.out he (by omega))
            have hrbk := Lib.hid (fun (W : World) (v ev : Value) (en : List Int) (h : IsT W v t) (he : IsU .u64 W ev en) => rback_c h PP hPl.out hPb.out he (by omega))
            have hrun := Lib.hid (fun (W : World) (v : Value) (h : IsT W v t) => trun_c h PP hPl.out hPb.out s (by omega))
            have hrrun := Lib.hid (fun (W : World) (v : Value) (h : IsT W v t) => rrun_c h PP hPl.out hPb.out s (by omega))
            have hU5 : IsU .u64 (wr.alloc (.cells #[.int .u64 1, .int .u64 0, .int .u64 3] 34)) (.slice (some ⟨wr.heap.size, 0, none⟩) 3 3) [1, 0, 3] := isU_lit wr 34 .u64 [1, 0, 3] (by decide)
            have hb5 := below_alloc (Below.refl wr.heap.size wr) (.cells #[.int .u64 1, .int .u64 0, .int .u64 3] 34)
            have hT5 := Lib.hid ((hT1.out.below hbo.out).below hb5)
            have hB5 := Lib.hid (below_then (below_then hB1.out hB1.out.size hbo.out) (by have h1 := hB1.out.size; have h2 := hbo.out.size; omega) hb5)
            have hK5 := Lib.hid (hB.out.alloc (.cells #[.int .u64 1, .int .u64 0, .int .u64 3] 34))
            clear hb5
            unfold arI at hbk hrbk hrun hrrun hK5 hB
            generalize PP.map (Value.int .u8) = CL at *
            generalize backM PP t [1, 0, 3] = BM at *
            generalize runT PP t s = RT at *
            go_upto_region 12 with (fail)
            generalize wr.alloc (.cells #[.int .u64 1, .int .u64 0, .int .u64 3] 34) = W5 at *
            generalize wr.heap.size = g5 at *
            have hb5d : Below W5.heap.size W5 W5.drew := below_drew1 (Below.refl _ _)
            have hr8 : ∀ w', Below W5.heap.size W5 w' → w'.rangeAt w1.heap.size 0 CL := fun w' h => range_of (hK5.out.below h hK5.out.lt)
            refine wp_region_held_drew (S := fun w' => Below W5.heap.size W5 w') (by kernel_rfl) hb5d (fun hS => ?_)
            refine hold_take (i := 0) rfl (by kernel_rfl) (by kernel_rfl) (by kernel_rfl) (fun _ _ _ h => h) (yieldsIf_load_mid (by rfl) _ _ rfl _ _ rfl _ _ hr8 hu24 rfl hszL) hS ?_
            (try dsimp only [Act.put])
            (try simp only [Act.put, List.setIfInBounds_toArray, List.set_cons_zero, List.set_cons_succ])
            refine hold_take (i := 1) (v := ?_) rfl (by kernel_rfl) (by kernel_rfl) (by kernel_rfl) (fun _ _ _ h => h) (Or.inl ⟨by rfl, ?_⟩) hS ?_
            rotate_left
            · intro w hSw; go_simp; try with_reducible rfl
            (try dsimp only [Act.put])
            (try simp only [Act.put, List.setIfInBounds_toArray, List.set_cons_zero, List.set_cons_succ])
            refine hold_take (i := 2) (v := ?_) rfl (by kernel_rfl) (by kernel_rfl) (by kernel_rfl) (fun _ _ _ h => h) (Or.inl ⟨by rfl, ?_⟩) hS ?_
            rotate_left
            · intro w hSw; go_simp; try with_reducible rfl
            (try dsimp only [Act.put])
            (try simp only [Act.put, List.setIfInBounds_toArray, List.set_cons_zero, List.set_cons_succ])
            refine hold_take (i := 4) rfl (by kernel_rfl) (by kernel_rfl) (by kernel_rfl) (fun _ _ _ h => h) (yieldsIf_load_mid (by rfl) _ _ rfl _ _ rfl _ _ hr8 hu24 rfl hszL) hS ?_
            (try dsimp only [Act.put])
            (try simp only [Act.put, List.setIfInBounds_toArray, List.set_cons_zero, List.set_cons_succ])
            refine hold_take (i := 5) (v := ?_) rfl (by kernel_rfl) (by kernel_rfl) (by kernel_rfl) (fun _ _ _ h => h) (Or.inl ⟨by rfl, ?_⟩) hS ?_
            rotate_left
            · intro w hSw; go_simp; try with_reducible rfl
            (try dsimp only [Act.put])
            (try simp only [Act.put, List.setIfInBounds_toArray, List.set_cons_zero, List.set_cons_succ])
            refine hold_take (i := 6) (v := ?_) rfl (by kernel_rfl) (by kernel_rfl) (by kernel_rfl) (fun _ _ _ h => h) (Or.inl ⟨by rfl, ?_⟩) hS ?_
            rotate_left
            · intro w hSw; go_simp; try with_reducible rfl
            (try dsimp only [Act.put])
            (try simp only [Act.put, List.setIfInBounds_toArray, List.set_cons_zero, List.set_cons_succ])
            refine hold_call_ (i := 3) (by kernel_rfl) rfl (by rfl) (fun w6 w' => Below w6.heap.size w6 w') ?_
            intro K hK
            go_simp
            go_at_call 16
            refine (hbk.out _ _ _ _ (hT5.out.below hb5d) (hU5.below hb5d)).mono ?_
            rintro e w6 ⟨v6, rfl, hM6, hb6⟩
            replace hb6 : Below W5.heap.size W5 w6 := below_then hb5d hb5d.size hb6
            have hd6 := hb6
            refine hK _ _ hb6 (fun w2 h => below_then hb6 hb6.size h) ?_
            have hS6 := Below.refl w6.heap.size w6
            clear hK K
            refine hold_call_ (i := 7) (by kernel_rfl) rfl (by rfl) (fun w6 w' => Below w6.heap.size w6 w') ?_
            intro K hK
            go_simp
            go_at_call 17
            refine (hrbk.out _ _ _ _ (hT5.out.below hd6) (hU5.below hd6)).mono ?_
            rintro e w7 ⟨v7, rfl, hM7, hb7⟩
            have hd7 := below_then hd6 hd6.size hb7
            refine hK _ _ hb7 (fun w2 h => below_then hb7 hb7.size h) ?_
            have hS7 := Below.refl w7.heap.size w7
            clear hK K
            refine hold_call_ (i := 8) (by kernel_rfl) rfl (by rfl) (fun w6 w' => Below w6.heap.size w6 w') ?_
            intro K hK
            go_simp
            go_at_call 15
            refine (same_c (hM6.below hb7) hM7).mono ?_
            rintro e w8 ⟨rfl, hb8⟩
            have hd8 := below_then hd7 hd7.size hb8
            refine hK _ _ hb8 (fun w2 h => below_then hb8 hb8.size h) ?_
            have hS8 := Below.refl w8.heap.size w8
            clear hK K
            refine hold_take (i := 9) (v := ?_) rfl (by kernel_rfl) (by kernel_rfl) (by kernel_rfl) (fun _ _ _ h => h) (Or.inl ⟨by rfl, ?_⟩) hS8 ?_
            rotate_left
            · intro w hSw; go_simp; try with_reducible rfl
            (try dsimp only [Act.put])
            (try simp only [Act.put, List.setIfInBounds_toArray, List.set_cons_zero, List.set_cons_succ])
            refine hold_take (i := 10) rfl (by kernel_rfl) (by kernel_rfl) (by kernel_rfl) (fun _ _ _ h => h) (yieldsIf_load_mid (by rfl) _ _ rfl _ _ rfl _ _ (fun w' h => hr8 w' (below_then hd8 hd8.size h)) hu24 rfl hszL) hS8 ?_
            (try dsimp only [Act.put])
            (try simp only [Act.put, List.setIfInBounds_toArray, List.set_cons_zero, List.set_cons_succ])
            refine hold_take (i := 11) (v := ?_) rfl (by kernel_rfl) (by kernel_rfl) (by kernel_rfl) (fun _ _ _ h => h) (Or.inl ⟨by rfl, ?_⟩) hS8 ?_
            rotate_left
            · intro w hSw; go_simp; try with_reducible rfl
            (try dsimp only [Act.put])
            (try simp only [Act.put, List.setIfInBounds_toArray, List.set_cons_zero, List.set_cons_succ])
            refine hold_take (i := 12) (v := ?_) rfl (by kernel_rfl) (by kernel_rfl) (by kernel_rfl) (fun _ _ _ h => h) (Or.inl ⟨by rfl, ?_⟩) hS8 ?_
            rotate_left
            · intro w hSw; go_simp; try with_reducible rfl
            (try dsimp only [Act.put])
            (try simp only [Act.put, List.setIfInBounds_toArray, List.set_cons_zero, List.set_cons_succ])
            refine hold_take (i := 14) rfl (by kernel_rfl) (by kernel_rfl) (by kernel_rfl) (fun _ _ _ h => h) (yieldsIf_load_mid (by rfl) _ _ rfl _ _ rfl _ _ (fun w' h => hr8 w' (below_then hd8 hd8.size h)) hu24 rfl hszL) hS8 ?_
            (try dsimp only [Act.put])
            (try simp only [Act.put, List.setIfInBounds_toArray, List.set_cons_zero, List.set_cons_succ])
            refine hold_take (i := 15) (v := ?_) rfl (by kernel_rfl) (by kernel_rfl) (by kernel_rfl) (fun _ _ _ h => h) (Or.inl ⟨by rfl, ?_⟩) hS8 ?_
            rotate_left
            · intro w hSw; go_simp; try with_reducible rfl
            (try dsimp only [Act.put])
            (try simp only [Act.put, List.setIfInBounds_toArray, List.set_cons_zero, List.set_cons_succ])
            refine hold_take (i := 16) (v := ?_) rfl (by kernel_rfl) (by kernel_rfl) (by kernel_rfl) (fun _ _ _ h => h) (Or.inl ⟨by rfl, ?_⟩) hS8 ?_
            rotate_left
            · intro w hSw; go_simp; try with_reducible rfl
            (try dsimp only [Act.put])
            (try simp only [Act.put, List.setIfInBounds_toArray, List.set_cons_zero, List.set_cons_succ])
            refine hold_call_ (i := 13) (by kernel_rfl) rfl (by rfl) (fun w6 w' => Below w6.heap.size w6 w') ?_
            intro K hK
            go_simp
            go_at_call 18
            refine (hrun.out _ _ (hT5.out.below hd8)).mono ?_
            rintro e w9 ⟨rfl, hb9⟩
            have hd9 := below_then hd8 hd8.size hb9
            refine hK _ _ hb9 (fun w2 h => below_then hb9 hb9.size h) ?_
            have hS9 := Below.refl w9.heap.size w9
            clear hK K
            refine hold_call_ (i := 17) (by kernel_rfl) rfl (by rfl) (fun w6 w' => Below w6.heap.size w6 w') ?_
            intro K hK
            go_simp
            go_at_call 19
            refine (hrrun.out _ _ (hT5.out.below hd9)).mono ?_
            rintro e w10 ⟨rfl, hb10⟩
            have hd10 := below_then hd9 hd9.size hb10
            refine hK _ _ hb10 (fun w2 h => below_then hb10 hb10.size h) ?_
            have hS10 := Below.refl w10.heap.size w10
            clear hK K
            refine hold_take (i := 18) (v := ?_) rfl (by kernel_rfl) (by kernel_rfl) (by kernel_rfl) (fun _ _ _ h => h) (Or.inl ⟨by rfl, ?_⟩) hS10 ?_
            rotate_left
            · intro w hSw; go_simp; try with_reducible rfl
            (try dsimp only [Act.put])
            (try simp only [Act.put, List.setIfInBounds_toArray, List.set_cons_zero, List.set_cons_succ])
            refine hold_take (i := 19) (v := ?_) rfl (by kernel_rfl) (by kernel_rfl) (by kernel_rfl) (fun _ _ _ h => h) (Or.inl ⟨by rfl, ?_⟩) hS10 ?_
            rotate_left
            · intro w hSw; go_simp; try with_reducible rfl
            (try dsimp only [Act.put])
            (try simp only [Act.put, List.setIfInBounds_toArray, List.set_cons_zero, List.set_cons_succ])
            refine hold_take (i := 20) (v := ?_) rfl (by kernel_rfl) (by kernel_rfl) (by kernel_rfl) (fun _ _ _ h => h) (Or.inl ⟨by rfl, ?_⟩) hS10 ?_
            rotate_left
            · intro w hSw; go_simp; try with_reducible rfl
            (try dsimp only [Act.put])
            (try simp only [Act.put, List.setIfInBounds_toArray, List.set_cons_zero, List.set_cons_succ])
            refine wpAnyH_done (by kernel_rfl) ?_ _
            go_wp2
            go_ret
            exact ⟨rfl, below_then hB5.out hB5.out.size hd10⟩
          · have hdb : decide ((b : Int) < 256) = false := decide_eq_false (by omega)
            have hu24 := Try.underlying24
            have hszL : (Try.prog.info? 24).map (·.size) = some (PP.map (Value.int .u8)).length := by rw [List.length_map, hPl.out]; exact size24'
            have hbk := Lib.hid (fun (W : World) (v ev : Value) (en : List Int) (h : IsT W v t) (he : IsU .u64 W ev en) => back_c h PP hPl.out hPb.out he (by omega))
            have hrbk := Lib.hid (fun (W : World) (v ev : Value) (en : List Int) (h : IsT W v t) (he : IsU .u64 W ev en) => rback_c h PP hPl.out hPb.out he (by omega))
            have hrun := Lib.hid (fun (W : World) (v : Value) (h : IsT W v t) => trun_c h PP hPl.out hPb.out s (by omega))
            have hrrun := Lib.hid (fun (W : World) (v : Value) (h : IsT W v t) => rrun_c h PP hPl.out hPb.out s (by omega))
            have hU5 : IsU .u64 (wr.alloc (.cells #[.int .u64 1, .int .u64 0, .int .u64 3] 34)) (.slice (some ⟨wr.heap.size, 0, none⟩) 3 3) [1, 0, 3] := isU_lit wr 34 .u64 [1, 0, 3] (by decide)
            have hb5 := below_alloc (Below.refl wr.heap.size wr) (.cells #[.int .u64 1, .int .u64 0, .int .u64 3] 34)
            have hT5 := Lib.hid ((hT1.out.below hbo.out).below hb5)
            have hB5 := Lib.hid (below_then (below_then hB1.out hB1.out.size hbo.out) (by have h1 := hB1.out.size; have h2 := hbo.out.size; omega) hb5)
            have hK5 := Lib.hid (hB.out.alloc (.cells #[.int .u64 1, .int .u64 0, .int .u64 3] 34))
            clear hb5
            unfold arI at hbk hrbk hrun hrrun hK5 hB
            generalize PP.map (Value.int .u8) = CL at *
            generalize backM PP t [1, 0, 3] = BM at *
            generalize runT PP t s = RT at *
            go_upto_region 12 with (fail)
            generalize wr.alloc (.cells #[.int .u64 1, .int .u64 0, .int .u64 3] 34) = W5 at *
            generalize wr.heap.size = g5 at *
            have hb5d : Below W5.heap.size W5 W5.drew := below_drew1 (Below.refl _ _)
            have hr8 : ∀ w', Below W5.heap.size W5 w' → w'.rangeAt w1.heap.size 0 CL := fun w' h => range_of (hK5.out.below h hK5.out.lt)
            refine wp_region_held_drew (S := fun w' => Below W5.heap.size W5 w') (by kernel_rfl) hb5d (fun hS => ?_)
            refine hold_take (i := 0) rfl (by kernel_rfl) (by kernel_rfl) (by kernel_rfl) (fun _ _ _ h => h) (yieldsIf_load_mid (by rfl) _ _ rfl _ _ rfl _ _ hr8 hu24 rfl hszL) hS ?_
            (try dsimp only [Act.put])
            (try simp only [Act.put, List.setIfInBounds_toArray, List.set_cons_zero, List.set_cons_succ])
            refine hold_take (i := 1) (v := ?_) rfl (by kernel_rfl) (by kernel_rfl) (by kernel_rfl) (fun _ _ _ h => h) (Or.inl ⟨by rfl, ?_⟩) hS ?_
            rotate_left
            · intro w hSw; go_simp; try with_reducible rfl
            (try dsimp only [Act.put])
            (try simp only [Act.put, List.setIfInBounds_toArray, List.set_cons_zero, List.set_cons_succ])
            refine hold_take (i := 2) (v := ?_) rfl (by kernel_rfl) (by kernel_rfl) (by kernel_rfl) (fun _ _ _ h => h) (Or.inl ⟨by rfl, ?_⟩) hS ?_
            rotate_left
            · intro w hSw; go_simp; try with_reducible rfl
            (try dsimp only [Act.put])
            (try simp only [Act.put, List.setIfInBounds_toArray, List.set_cons_zero, List.set_cons_succ])
            refine hold_take (i := 4) rfl (by kernel_rfl) (by kernel_rfl) (by kernel_rfl) (fun _ _ _ h => h) (yieldsIf_load_mid (by rfl) _ _ rfl _ _ rfl _ _ hr8 hu24 rfl hszL) hS ?_
            (try dsimp only [Act.put])
            (try simp only [Act.put, List.setIfInBounds_toArray, List.set_cons_zero, List.set_cons_succ])
            refine hold_take (i := 5) (v := ?_) rfl (by kernel_rfl) (by kernel_rfl) (by kernel_rfl) (fun _ _ _ h => h) (Or.inl ⟨by rfl, ?_⟩) hS ?_
            rotate_left
            · intro w hSw; go_simp; try with_reducible rfl
            (try dsimp only [Act.put])
            (try simp only [Act.put, List.setIfInBounds_toArray, List.set_cons_zero, List.set_cons_succ])
            refine hold_take (i := 6) (v := ?_) rfl (by kernel_rfl) (by kernel_rfl) (by kernel_rfl) (fun _ _ _ h => h) (Or.inl ⟨by rfl, ?_⟩) hS ?_
            rotate_left
            · intro w hSw; go_simp; try with_reducible rfl
            (try dsimp only [Act.put])
            (try simp only [Act.put, List.setIfInBounds_toArray, List.set_cons_zero, List.set_cons_succ])
            refine hold_call_ (i := 3) (by kernel_rfl) rfl (by rfl) (fun w6 w' => Below w6.heap.size w6 w') ?_
            intro K hK
            go_simp
            go_at_call 16
            refine (hbk.out _ _ _ _ (hT5.out.below hb5d) (hU5.below hb5d)).mono ?_
            rintro e w6 ⟨v6, rfl, hM6, hb6⟩
            replace hb6 : Below W5.heap.size W5 w6 := below_then hb5d hb5d.size hb6
            have hd6 := hb6
            refine hK _ _ hb6 (fun w2 h => below_then hb6 hb6.size h) ?_
            have hS6 := Below.refl w6.heap.size w6
            clear hK K
            refine hold_call_ (i := 7) (by kernel_rfl) rfl (by rfl) (fun w6 w' => Below w6.heap.size w6 w') ?_
            intro K hK
            go_simp
            go_at_call 17
            refine (hrbk.out _ _ _ _ (hT5.out.below hd6) (hU5.below hd6)).mono ?_
            rintro e w7 ⟨v7, rfl, hM7, hb7⟩
            have hd7 := below_then hd6 hd6.size hb7
            refine hK _ _ hb7 (fun w2 h => below_then hb7 hb7.size h) ?_
            have hS7 := Below.refl w7.heap.size w7
            clear hK K
            refine hold_call_ (i := 8) (by kernel_rfl) rfl (by rfl) (fun w6 w' => Below w6.heap.size w6 w') ?_
            intro K hK
            go_simp
            go_at_call 15
            refine (same_c (hM6.below hb7) hM7).mono ?_
            rintro e w8 ⟨rfl, hb8⟩
            have hd8 := below_then hd7 hd7.size hb8
            refine hK _ _ hb8 (fun w2 h => below_then hb8 hb8.size h) ?_
            have hS8 := Below.refl w8.heap.size w8
            clear hK K
            refine hold_take (i := 9) (v := ?_) rfl (by kernel_rfl) (by kernel_rfl) (by kernel_rfl) (fun _ _ _ h => h) (Or.inl ⟨by rfl, ?_⟩) hS8 ?_
            rotate_left
            · intro w hSw; go_simp; try with_reducible rfl
            (try dsimp only [Act.put])
            (try simp only [Act.put, List.setIfInBounds_toArray, List.set_cons_zero, List.set_cons_succ])
            refine hold_take (i := 10) rfl (by kernel_rfl) (by kernel_rfl) (by kernel_rfl) (fun _ _ _ h => h) (yieldsIf_load_mid (by rfl) _ _ rfl _ _ rfl _ _ (fun w' h => hr8 w' (below_then hd8 hd8.size h)) hu24 rfl hszL) hS8 ?_
            (try dsimp only [Act.put])
            (try simp only [Act.put, List.setIfInBounds_toArray, List.set_cons_zero, List.set_cons_succ])
            refine hold_take (i := 11) (v := ?_) rfl (by kernel_rfl) (by kernel_rfl) (by kernel_rfl) (fun _ _ _ h => h) (Or.inl ⟨by rfl, ?_⟩) hS8 ?_
            rotate_left
            · intro w hSw; go_simp; try with_reducible rfl
            (try dsimp only [Act.put])
            (try simp only [Act.put, List.setIfInBounds_toArray, List.set_cons_zero, List.set_cons_succ])
            refine hold_take (i := 12) (v := ?_) rfl (by kernel_rfl) (by kernel_rfl) (by kernel_rfl) (fun _ _ _ h => h) (Or.inl ⟨by rfl, ?_⟩) hS8 ?_
            rotate_left
            · intro w hSw; go_simp; try with_reducible rfl
            (try dsimp only [Act.put])
            (try simp only [Act.put, List.setIfInBounds_toArray, List.set_cons_zero, List.set_cons_succ])
            refine hold_take (i := 14) rfl (by kernel_rfl) (by kernel_rfl) (by kernel_rfl) (fun _ _ _ h => h) (yieldsIf_load_mid (by rfl) _ _ rfl _ _ rfl _ _ (fun w' h => hr8 w' (below_then hd8 hd8.size h)) hu24 rfl hszL) hS8 ?_
            (try dsimp only [Act.put])
            (try simp only [Act.put, List.setIfInBounds_toArray, List.set_cons_zero, List.set_cons_succ])
            refine hold_take (i := 15) (v := ?_) rfl (by kernel_rfl) (by kernel_rfl) (by kernel_rfl) (fun _ _ _ h => h) (Or.inl ⟨by rfl, ?_⟩) hS8 ?_
            rotate_left
            · intro w hSw; go_simp; try with_reducible rfl
            (try dsimp only [Act.put])
            (try simp only [Act.put, List.setIfInBounds_toArray, List.set_cons_zero, List.set_cons_succ])
            refine hold_take (i := 16) (v := ?_) rfl (by kernel_rfl) (by kernel_rfl) (by kernel_rfl) (fun _ _ _ h => h) (Or.inl ⟨by rfl, ?_⟩) hS8 ?_
            rotate_left
            · intro w hSw; go_simp; try with_reducible rfl
            (try dsimp only [Act.put])
            (try simp only [Act.put, List.setIfInBounds_toArray, List.set_cons_zero, List.set_cons_succ])
            refine hold_call_ (i := 13) (by kernel_rfl) rfl (by rfl) (fun w6 w' => Below w6.heap.size w6 w') ?_
            intro K hK
            go_simp
            go_at_call 18
            refine (hrun.out _ _ (hT5.out.below hd8)).mono ?_
            rintro e w9 ⟨rfl, hb9⟩
            have hd9 := below_then hd8 hd8.size hb9
            refine hK _ _ hb9 (fun w2 h => below_then hb9 hb9.size h) ?_
            have hS9 := Below.refl w9.heap.size w9
            clear hK K
            refine hold_call_ (i := 17) (by kernel_rfl) rfl (by rfl) (fun w6 w' => Below w6.heap.size w6 w') ?_
            intro K hK
            go_simp
            go_at_call 19
            refine (hrrun.out _ _ (hT5.out.below hd9)).mono ?_
            rintro e w10 ⟨rfl, hb10⟩
            have hd10 := below_then hd9 hd9.size hb10
            refine hK _ _ hb10 (fun w2 h => below_then hb10 hb10.size h) ?_
            have hS10 := Below.refl w10.heap.size w10
            clear hK K
            refine hold_take (i := 18) (v := ?_) rfl (by kernel_rfl) (by kernel_rfl) (by kernel_rfl) (fun _ _ _ h => h) (Or.inl ⟨by rfl, ?_⟩) hS10 ?_
            rotate_left
            · intro w hSw; go_simp; try with_reducible rfl
            (try dsimp only [Act.put])
            (try simp only [Act.put, List.setIfInBounds_toArray, List.set_cons_zero, List.set_cons_succ])
            refine hold_take (i := 19) (v := ?_) rfl (by kernel_rfl) (by kernel_rfl) (by kernel_rfl) (fun _ _ _ h => h) (Or.inl ⟨by rfl, ?_⟩) hS10 ?_
            rotate_left
            · intro w hSw; go_simp; try with_reducible rfl
            (try dsimp only [Act.put])
            (try simp only [Act.put, List.setIfInBounds_toArray, List.set_cons_zero, List.set_cons_succ])
            refine hold_take (i := 20) (v := ?_) rfl (by kernel_rfl) (by kernel_rfl) (by kernel_rfl) (fun _ _ _ h => h) (Or.inl ⟨by rfl, ?_⟩) hS10 ?_
            rotate_left
            · intro w hSw; go_simp; try with_reducible rfl
            (try dsimp only [Act.put])
            (try simp only [Act.put, List.setIfInBounds_toArray, List.set_cons_zero, List.set_cons_succ])
            refine wpAnyH_done (by kernel_rfl) ?_ _
            go_wp2
            go_ret
            exact ⟨rfl, below_then hB5.out hB5.out.size hd10⟩
section
variable {H : Type} {enc : TypeId × Value → H} {w : World} {base : Nat} {spare : Nat → Bool} {held : Bool}
/-- A table that came in. -/
theorem open_table {v : Value} {d : DataW H} {ps : List MemPlace} (h : DataW.Trod enc Try.prog w base spare held 31 v d ps) (hv : ∃ a n c, v = .slice a n c) : ∃ t, IsT w v t := by
  obtain ⟨a, n, c, rfl⟩ := hv
  obtain ⟨fuel, hf⟩ := h
  obtain ⟨m, A, c', e, h1, h2⟩ := opens_slice (d := kRow) Try.underlying31 cells44' (opens_slice Try.underlying44 cells3' (opens_int Try.underlying3)) _ _ _ hf
  have e' : [Value.slice a n c] = [Value.slice A m.length c'] := e
  injection e' with e' _
  exact ⟨m, A, c', e', h1, h2⟩
/-- Bytes that came in. -/
theorem open_u8s {v : Value} {d : DataW H} {ps : List MemPlace} (h : DataW.Trod enc Try.prog w base spare held 28 v d ps) (hv : ∃ a n c, v = .slice a n c) : ∃ l, IsU .u8 w v l ∧ ∀ x ∈ l, 0 ≤ x ∧ x ≤ 255 := by
  obtain ⟨a, n, c, rfl⟩ := hv
  obtain ⟨fuel, hf⟩ := h
  rcases Go.Deep.open_slice1 Try.underlying28 cells5' hf with ⟨e, _⟩ | ⟨x, len, cap, m, q, V, D, Pl, e, hb, hl, hm, hmm, _, hel⟩
  · have e' : [Value.slice a n c] = [Value.slice none 0 0] := e
    injection e' with e' _
    rw [e']
    exact ⟨[], ⟨none, 0, rfl, Nat.le_refl _, rfl, by simp, fun h => absurd h (Nat.lt_irrefl 0)⟩, fun x hx => by simp at hx⟩
  · have e' : [Value.slice a n c] = [Value.slice (some x) len cap] := e
    injection e' with e' _
    rw [e']
    have hlm : len ≤ m := by rw [hmm]; split <;> omega
    obtain ⟨l, hll, hq⟩ := list_of (fun i (y : Int) => w.cell? (x.add i) = some (.int .u8 y) ∧ 0 ≤ y ∧ y ≤ 255) len (fun i hi => by
      obtain ⟨h1, h2⟩ := hel i (by omega)
      obtain ⟨y, hy, _, hw⟩ := DataW.trod_int Try.underlying5 h2
      injection hy with hy _
      exact ⟨y, by rw [h1, hy], bounds_u8 hw⟩)
    refine ⟨l, ⟨some x, cap, by rw [hll], by omega, ?_⟩, fun y hy => ?_⟩
    · refine Kd.C_of_reads (d := (0 : Int)) ⟨rfl, by rw [hll]; simp only [maxLen] at hm; omega, fun _ => ⟨x, rfl, fun j hj => ?_⟩⟩
      rw [List.getD_eq_getElem?_getD, List.getElem?_eq_getElem hj]
      exact (hq j _ (List.getElem?_eq_getElem hj)).1
    · obtain ⟨i, hi, rfl⟩ := List.getElem_of_mem hy
      exact (hq i _ (List.getElem?_eq_getElem hi)).2
end
end Go.Proofs.Ytbhdpamepmkaiaa
