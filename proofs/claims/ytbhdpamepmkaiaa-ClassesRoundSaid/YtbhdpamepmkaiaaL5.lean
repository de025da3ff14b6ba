/- homographlaw10.ClassesRound: its walk. Own text. -/
import Derived.Test.YtbhdpamepmkaiaaHold
import Derived.Test.YtbhdpamepmkaiaaRnd
import Derived.Deep.QuietTactic
import Derived.BigQuiet
namespace Go.Proofs.Ytbhdpamepmkaiaa
open Go.RowKit Go.Proofs.Ytbhdpamepmkaiaa.P Go.Proofs.Ytbhdpamepmkaiaa.Plain Go.Proofs.YtbhdpamepmkaiaaW.PrintWords Go.Proofs.YtbhdpamepmkaiaaW.PrintLast Go.Proofs.YtbhdpamepmkaiaaW.PrintMore
set_option linter.unusedVariables false
set_option linter.unusedSimpArgs false

theorem range_of {w : World} {g : Nat} {t : TypeId} {L : List Value} (h : Blk w g t L.toArray) : w.rangeAt g 0 L := fun j v hv => by
  rw [Nat.zero_add, h.cell j]; simpa using hv
/-- What Check says of a machine is one number, wherever it is asked. -/
theorem check_d {w : World} {v : Value} {m : List S48} (h : IsM w v m) : ∃ r : Int, (r = 110 ∨ r = 0 ∧ GoodM m) ∧ ∀ W : World, IsM W v m → Calls Try.prog 20 #[v] W fun e w' => e = .returned (.int .i64 r) ∧ Below W.heap.size W w' := by
  obtain ⟨A, c, rfl, h2, h3⟩ := h
  obtain ⟨L, hL⟩ := short_of h3
  obtain ⟨k, r, hf, hr⟩ := check_f m L hL
  refine ⟨r, hr, fun W hW => ?_⟩
  obtain ⟨A', c', e, h2', h3'⟩ := hW
  injection e with e1 e2 e3
  subst e1 e3
  exact (homographref07_Check.calls k A c m r W h3' h2' hf).mono fun e w' ⟨h1, h2⟩ => ⟨h1, h2.below⟩
/-- Are two columns of the first rows the same? -/
def colEq (m : List S48) (a b i : Nat) : Bool := (List.range i).all fun j => (rowM m j).getD a 0 == (rowM m j).getD b 0
theorem colEq_succ (m : List S48) (a b i : Nat) : colEq m a b (i + 1) = (colEq m a b i && ((rowM m i).getD a 0 == (rowM m i).getD b 0)) := by
  unfold colEq; rw [List.range_succ, List.all_append]; simp
theorem colEq_no (m : List S48) (a b : Nat) (ha : a < (Fm m).length) (hb : b < a) : colEq m a b m.length = false := by
  obtain ⟨i, hi, hne⟩ := rows_apart m a b ha hb
  rw [Bool.eq_false_iff]
  intro h
  have := List.all_eq_true.1 h i (List.mem_range.2 hi)
  exact hne (by simpa using this)

set_option maxRecDepth 20000 in
set_option maxHeartbeats 2000000 in
theorem classesRound_c {w : World} {v : Value} {m : List S48} (h : IsM w v m) (hB : ∀ s ∈ m, Byt s.f1) (s : ByteArray) (hs : s.size ≤ 9223372036854775807) :
    Calls Try.prog 5 #[v, .string s] w fun e w' => e = .returned (.bool true) ∧ Below w.heap.size w w' := by
  have hM := Lib.hid h
  have hMl := h.len
  obtain ⟨r, hr, hck0⟩ := check_d h
  have hck := Lib.hid hck0
  clear hck0
  obtain ⟨A, c, rfl, h2, h3⟩ := h
  clear h2 h3
  by_cases hm : m.length ≤ 20
  · have hd1 : decide ((20 : Int) < (m.length : Int)) = false := decide_eq_false (by omega)
    by_cases hs60 : s.size ≤ 60
    · have hd2 : decide ((60 : Int) < (s.size : Int)) = false := decide_eq_false (by omega)
      rcases hr with rfl | ⟨rfl, hg⟩
      · go_enter Try.func5, Try.ntmps5
        go_wp2_with (first
          | (go_at_call 7; refine (awake_c _).mono ?_; rintro e w1 ⟨rfl, hb1⟩; have hM1 := Lib.hid (hM.out.below hb1))
          | (go_at_call 20; refine (hck.out _ hM1.out).mono ?_; rintro e w2 ⟨rfl, hb2⟩))
        go_ret
        exact ⟨rfl, below_then hb1 hb1.size hb2⟩
      · have hof := Lib.hid (fun (W : World) (hW : IsM W (.slice A m.length c) m) => of_c hW (by omega))
        rw [partL_cls, (partL_num m m.length).2] at hof
        have htb := Lib.hid (fun (W : World) (hW : IsM W (.slice A m.length c) m) => table_c hW (by omega))
        have hen := Lib.hid (fun (W : World) (hW : IsM W (.slice A m.length c) m) => ends_c hW (by omega))
        have hbk := Lib.hid (fun (W : World) (v ev : Value) (h : IsT W v (tabM m)) (he : IsU .u64 W ev (m.map S48.f0)) => back_c h (cls m) (cls_len m) (cls_bd m) he (by rw [tab_len]; omega))
        rw [back_round m hg hB] at hbk
        have hrun := Lib.hid (fun (W : World) (v : Value) (h : IsT W v (tabM m)) => trun_c h (cls m) (cls_len m) (cls_bd m) s (by omega))
        rw [run_round m hg s] at hrun
        have hmr := Lib.hid (fun (W : World) (hW : IsM W (.slice A m.length c) m) => run_c hW s hs)
        have hcw := Lib.hid (fun W : World => classes_Lows.calls (cls m) (cls_len m) (cls_bd m) W)
        have hLl := Lib.hid (lowsL_len m)
        have hszL : (Try.prog.info? 24).map (·.size) = some ((cls m).map (Value.int .u8)).length := by rw [List.length_map, cls_len]; exact size24'
        have hsz : (Try.prog.info? 24).map (·.size) = some (arI .u8 (cls m)).size := by rw [arI_size, cls_len]; exact size24'
        have hsz0 : zerosB.size = (arI .u8 (cls m)).size := by rw [arI_size, cls_len]; rfl
        have hone := arI_one .u8 (cls m)
        have hu24 := Try.underlying24
        have hF0 := Fm_pos m
        have hF1 := Fm_le m
        have hrl := Lib.hid (row_len m)
        have hrw := Lib.hid (tab_row m)
        have hno := Lib.hid (colEq_no m)
        have hce := Lib.hid (colEq_succ m)
        have hc0 := Lib.hid (show ∀ a b, colEq m a b 0 = true from fun _ _ => rfl)
        have htl := Lib.hid (tab_len m)
        unfold arI at hof hcw hrun hbk hsz hsz0 hone
        unfold Fm at hF0 hF1 hLl hrl hno
        generalize hA : (cls m).map (Value.int .u8) = CL at *
        generalize hLL : lowsL (cls m) = LC at *
        generalize hTT : tabM m = TT at *
        generalize hF : (firsts (sig m m.length) 256).length = F at *
        generalize hRM : runM m s = RM at *
        generalize colEq m = CE at *
        generalize rowM m = RW at *
        clear hA hF hLL hTT hRM
        have hdF1 : decide ((F : Int) < 1) = false := decide_eq_false (by omega)
        have hdF2 : decide ((256 : Int) < (F : Int)) = false := decide_eq_false (by omega)
        go_enter Try.func5, Try.ntmps5
        go_upto_region 8 with (first
          | (go_at_call 7; refine (awake_c _).mono ?_; rintro e w1 ⟨rfl, hb1⟩; have hM1 := Lib.hid (hM.out.below hb1); have hB1 := Lib.hid hb1; clear hb1)
          | (go_at_call 20; refine (hck.out _ hM1.out).mono ?_; rintro e w2 ⟨rfl, hb2⟩; have hM2 := Lib.hid (hM1.out.below hb2); have hB2 := Lib.hid (below_then hB1.out hB1.out.size hb2); clear hb2)
          | (go_at_call 8; refine (hof.out _ hM2.out).mono ?_; rintro e w3 ⟨rfl, hb3⟩; have hM3 := Lib.hid (hM2.out.below hb3); have hB3 := Lib.hid (below_then hB2.out hB2.out.size hb3); clear hb3)
          | (refine wpList_alloc_arr rfl 24 rfl zerosB zero24 ?_)
          | (refine wpList_store_row rfl 24 (.tmp 6) (.tmp 32) rfl w3.heap.size _ rfl rfl 24 zerosB (Blk.new w3 24 zerosB) hsz hsz0 hone ?_; have hb4 := below_setRow0' w3 zerosB 24 CL.toArray; have hM4 := Lib.hid (hM3.out.below hb4); have hB4 := Lib.hid (below_then hB3.out hB3.out.size hb4); have hK4 := Lib.hid ((Blk.new w3 24 zerosB).setRow_ CL.toArray); clear hb4)
          | (go_at_call 13; refine (htb.out _ hM4.out).mono ?_; rintro e w5 ⟨v5, rfl, hT5, hb5⟩; have hT5' := Lib.hid hT5; obtain ⟨A5, c5, hv5, _, _⟩ := hT5; rw [htl.out] at hv5; subst hv5; have hM5 := Lib.hid (hM4.out.below hb5); have hB5 := Lib.hid (below_then hB4.out hB4.out.size hb5); have hK5 := Lib.hid (hK4.out.below hb5 hK4.out.lt); clear hb5))
        have hz5 := hB5.out.size
        generalize w3.heap.size = g3 at *
        have hb5d : Below w5.heap.size w5 w5.drew := below_drew1 (Below.refl _ _)
        have hr6 : ∀ w', Below w5.heap.size w5 w' → w'.rangeAt g3 0 CL := fun w' h => range_of (hK5.out.below h hK5.out.lt)
        refine wp_region_held_drew (S := fun w' => Below w5.heap.size w5 w') (by kernel_rfl) hb5d (fun hS => ?_)
        refine hold_take (i := 0) rfl (by kernel_rfl) (by kernel_rfl) (by kernel_rfl) (fun _ _ _ h => h) (yieldsIf_load_mid (by rfl) _ _ rfl _ _ rfl _ _ hr6 hu24 rfl hszL) hS ?_
        (try dsimp only [Act.put])
        (try simp only [Act.put, List.setIfInBounds_toArray, List.set_cons_zero, List.set_cons_succ])
        refine hold_take (i := 1) (v := ?_) rfl (by kernel_rfl) (by kernel_rfl) (by kernel_rfl) (fun _ _ _ h => h) (Or.inl ⟨by rfl, ?_⟩) hS ?_
        rotate_left
        · intro w hSw; go_simp; try with_reducible rfl
        (try dsimp only [Act.put])
        (try simp only [Act.put, List.setIfInBounds_toArray, List.set_cons_zero, List.set_cons_succ])
        refine hold_take (i := 2) (v := ?_) rfl (by kernel_rfl) (by kernel_rfl) (by kernel_rfl) (fun _ _ _ h => h) (Or.inl ⟨by rfl, ?_⟩) hS ?_
        rotate_left
        · intro w hSw; go_simp; try with_reducible rfl
        (try dsimp only [Act.put])
        (try simp only [Act.put, List.setIfInBounds_toArray, List.set_cons_zero, List.set_cons_succ])
        refine hold_take (i := 5) (v := ?_) rfl (by kernel_rfl) (by kernel_rfl) (by kernel_rfl) (fun _ _ _ h => h) (Or.inl ⟨by rfl, ?_⟩) hS ?_
        rotate_left
        · intro w hSw; go_simp; try with_reducible rfl
        (try dsimp only [Act.put])
        (try simp only [Act.put, List.setIfInBounds_toArray, List.set_cons_zero, List.set_cons_succ])
        refine hold_call_ (i := 3) (by kernel_rfl) rfl (by rfl) (fun w6 w' => Below w6.heap.size w6 w') ?_
        intro K hK
        go_simp
        go_at_call 21
        refine (hen.out _ (hM5.out.below hb5d)).mono ?_
        rintro e w6 ⟨v6, rfl, hE6, hb6⟩
        replace hb6 : Below w5.heap.size w5 w6 := below_then hb5d hb5d.size hb6
        have hd6 := hb6
        refine hK _ _ hb6 (fun w2 h => below_then hb6 hb6.size h) ?_
        have hS6 := Below.refl w6.heap.size w6
        clear hK K
        refine hold_call_ (i := 4) (by kernel_rfl) rfl (by rfl) (fun w6 w' => Below w6.heap.size w6 w') ?_
        intro K hK
        go_simp
        go_at_call 16
        refine (hbk.out _ _ _ (hT5'.out.below hd6) (IsU.of_R hE6)).mono ?_
        rintro e w7 ⟨v7, rfl, hM7, hb7⟩
        have hd7 := below_then hd6 hd6.size hb7
        refine hK _ _ hb7 (fun w2 h => below_then hb7 hb7.size h) ?_
        have hS7 := Below.refl w7.heap.size w7
        clear hK K
        refine hold_call_ (i := 6) (by kernel_rfl) rfl (by rfl) (fun w6 w' => Below w6.heap.size w6 w') ?_
        intro K hK
        go_simp
        go_at_call 15
        refine (same_c hM7 (hM5.out.below hd7)).mono ?_
        rintro e w8 ⟨rfl, hb8⟩
        have hd8 := below_then hd7 hd7.size hb8
        refine hK _ _ hb8 (fun w2 h => below_then hb8 hb8.size h) ?_
        have hS8 := Below.refl w8.heap.size w8
        clear hK K
        refine hold_take (i := 7) (v := ?_) rfl (by kernel_rfl) (by kernel_rfl) (by kernel_rfl) (fun _ _ _ h => h) (Or.inl ⟨by rfl, ?_⟩) hS8 ?_
        rotate_left
        · intro w hSw; go_simp; try with_reducible rfl
        (try dsimp only [Act.put])
        (try simp only [Act.put, List.setIfInBounds_toArray, List.set_cons_zero, List.set_cons_succ])
        refine hold_take (i := 8) (v := ?_) rfl (by kernel_rfl) (by kernel_rfl) (by kernel_rfl) (fun _ _ _ h => h) (Or.inl ⟨by rfl, ?_⟩) hS8 ?_
        rotate_left
        · intro w hSw; go_simp; try with_reducible rfl
        (try dsimp only [Act.put])
        (try simp only [Act.put, List.setIfInBounds_toArray, List.set_cons_zero, List.set_cons_succ])
        refine hold_take (i := 9) rfl (by kernel_rfl) (by kernel_rfl) (by kernel_rfl) (fun _ _ _ h => h) (yieldsIf_load_mid (by rfl) _ _ rfl _ _ rfl _ _ (fun w' h => hr6 w' (below_then hd8 hd8.size h)) hu24 rfl hszL) hS8 ?_
        (try dsimp only [Act.put])
        (try simp only [Act.put, List.setIfInBounds_toArray, List.set_cons_zero, List.set_cons_succ])
        refine hold_take (i := 10) (v := ?_) rfl (by kernel_rfl) (by kernel_rfl) (by kernel_rfl) (fun _ _ _ h => h) (Or.inl ⟨by rfl, ?_⟩) hS8 ?_
        rotate_left
        · intro w hSw; go_simp; try with_reducible rfl
        (try dsimp only [Act.put])
        (try simp only [Act.put, List.setIfInBounds_toArray, List.set_cons_zero, List.set_cons_succ])
        refine hold_take (i := 11) (v := ?_) rfl (by kernel_rfl) (by kernel_rfl) (by kernel_rfl) (fun _ _ _ h => h) (Or.inl ⟨by rfl, ?_⟩) hS8 ?_
        rotate_left
        · intro w hSw; go_simp; try with_reducible rfl
        (try dsimp only [Act.put])
        (try simp only [Act.put, List.setIfInBounds_toArray, List.set_cons_zero, List.set_cons_succ])
        refine hold_take (i := 13) (v := ?_) rfl (by kernel_rfl) (by kernel_rfl) (by kernel_rfl) (fun _ _ _ h => h) (Or.inl ⟨by rfl, ?_⟩) hS8 ?_
        rotate_left
        · intro w hSw; go_simp; try with_reducible rfl
        (try dsimp only [Act.put])
        (try simp only [Act.put, List.setIfInBounds_toArray, List.set_cons_zero, List.set_cons_succ])
        refine hold_take (i := 14) (v := ?_) rfl (by kernel_rfl) (by kernel_rfl) (by kernel_rfl) (fun _ _ _ h => h) (Or.inl ⟨by rfl, ?_⟩) hS8 ?_
        rotate_left
        · intro w hSw; go_simp; try with_reducible rfl
        (try dsimp only [Act.put])
        (try simp only [Act.put, List.setIfInBounds_toArray, List.set_cons_zero, List.set_cons_succ])
        refine hold_call_ (i := 12) (by kernel_rfl) rfl (by rfl) (fun w6 w' => Below w6.heap.size w6 w') ?_
        intro K hK
        go_simp
        go_at_call 18
        refine (hrun.out _ _ (hT5'.out.below hd8)).mono ?_
        rintro e w9 ⟨rfl, hb9⟩
        have hd9 := below_then hd8 hd8.size hb9
        refine hK _ _ hb9 (fun w2 h => below_then hb9 hb9.size h) ?_
        have hS9 := Below.refl w9.heap.size w9
        clear hK K
        refine hold_call_ (i := 15) (by kernel_rfl) rfl (by rfl) (fun w6 w' => Below w6.heap.size w6 w') ?_
        intro K hK
        go_simp
        go_at_call 22
        refine (hmr.out _ (hM5.out.below hd9)).mono ?_
        rintro e w10 ⟨rfl, hb10⟩
        have hd10 := below_then hd9 hd9.size hb10
        refine hK _ _ hb10 (fun w2 h => below_then hb10 hb10.size h) ?_
        have hS10 := Below.refl w10.heap.size w10
        clear hK K
        refine hold_take (i := 16) (v := ?_) rfl (by kernel_rfl) (by kernel_rfl) (by kernel_rfl) (fun _ _ _ h => h) (Or.inl ⟨by rfl, ?_⟩) hS10 ?_
        rotate_left
        · intro w hSw; go_simp; try with_reducible rfl
        (try dsimp only [Act.put])
        (try simp only [Act.put, List.setIfInBounds_toArray, List.set_cons_zero, List.set_cons_succ])
        refine hold_take (i := 17) (v := ?_) rfl (by kernel_rfl) (by kernel_rfl) (by kernel_rfl) (fun _ _ _ h => h) (Or.inl ⟨by rfl, ?_⟩) hS10 ?_
        rotate_left
        · intro w hSw; go_simp; try with_reducible rfl
        (try dsimp only [Act.put])
        (try simp only [Act.put, List.setIfInBounds_toArray, List.set_cons_zero, List.set_cons_succ])
        refine hold_take (i := 18) (v := ?_) rfl (by kernel_rfl) (by kernel_rfl) (by kernel_rfl) (fun _ _ _ h => h) (Or.inl ⟨by rfl, ?_⟩) hS10 ?_
        rotate_left
        · intro w hSw; go_simp; try with_reducible rfl
        (try dsimp only [Act.put])
        (try simp only [Act.put, List.setIfInBounds_toArray, List.set_cons_zero, List.set_cons_succ])
        refine hold_take (i := 19) (v := ?_) rfl (by kernel_rfl) (by kernel_rfl) (by kernel_rfl) (fun _ _ _ h => h) (Or.inl ⟨by rfl, ?_⟩) hS10 ?_
        rotate_left
        · intro w hSw; go_simp; try with_reducible rfl
        (try dsimp only [Act.put])
        (try simp only [Act.put, List.setIfInBounds_toArray, List.set_cons_zero, List.set_cons_succ])
        refine hold_take (i := 20) (v := ?_) rfl (by kernel_rfl) (by kernel_rfl) (by kernel_rfl) (fun _ _ _ h => h) (Or.inl ⟨by rfl, ?_⟩) hS10 ?_
        rotate_left
        · intro w hSw; go_simp; try with_reducible rfl
        (try dsimp only [Act.put])
        (try simp only [Act.put, List.setIfInBounds_toArray, List.set_cons_zero, List.set_cons_succ])
        refine hold_take (i := 21) (v := ?_) rfl (by kernel_rfl) (by kernel_rfl) (by kernel_rfl) (fun _ _ _ h => h) (Or.inl ⟨by rfl, ?_⟩) hS10 ?_
        rotate_left
        · intro w hSw; go_simp; try with_reducible rfl
        (try dsimp only [Act.put])
        (try simp only [Act.put, List.setIfInBounds_toArray, List.set_cons_zero, List.set_cons_succ])
        refine hold_take (i := 22) (v := ?_) rfl (by kernel_rfl) (by kernel_rfl) (by kernel_rfl) (fun _ _ _ h => h) (Or.inl ⟨by rfl, ?_⟩) hS10 ?_
        rotate_left
        · intro w hSw; go_simp; try with_reducible rfl
        (try dsimp only [Act.put])
        (try simp only [Act.put, List.setIfInBounds_toArray, List.set_cons_zero, List.set_cons_succ])
        refine hold_take (i := 23) (v := ?_) rfl (by kernel_rfl) (by kernel_rfl) (by kernel_rfl) (fun _ _ _ h => h) (Or.inl ⟨by rfl, ?_⟩) hS10 ?_
        rotate_left
        · intro w hSw; go_simp; try with_reducible rfl
        (try dsimp only [Act.put])
        (try simp only [Act.put, List.setIfInBounds_toArray, List.set_cons_zero, List.set_cons_succ])
        refine hold_take (i := 24) (v := ?_) rfl (by kernel_rfl) (by kernel_rfl) (by kernel_rfl) (fun _ _ _ h => h) (Or.inl ⟨by rfl, ?_⟩) hS10 ?_
        rotate_left
        · intro w hSw; go_simp; try with_reducible rfl
        (try dsimp only [Act.put])
        (try simp only [Act.put, List.setIfInBounds_toArray, List.set_cons_zero, List.set_cons_succ])
        refine hold_take (i := 25) (v := ?_) rfl (by kernel_rfl) (by kernel_rfl) (by kernel_rfl) (fun _ _ _ h => h) (Or.inl ⟨by rfl, ?_⟩) hS10 ?_
        rotate_left
        · intro w hSw; go_simp; try with_reducible rfl
        (try dsimp only [Act.put])
        (try simp only [Act.put, List.setIfInBounds_toArray, List.set_cons_zero, List.set_cons_succ])
        refine hold_take (i := 26) (v := ?_) rfl (by kernel_rfl) (by kernel_rfl) (by kernel_rfl) (fun _ _ _ h => h) (Or.inl ⟨by rfl, ?_⟩) hS10 ?_
        rotate_left
        · intro w hSw; go_simp; try with_reducible rfl
        (try dsimp only [Act.put])
        (try simp only [Act.put, List.setIfInBounds_toArray, List.set_cons_zero, List.set_cons_succ])
        refine hold_take (i := 27) rfl (by kernel_rfl) (by kernel_rfl) (by kernel_rfl) (fun _ _ _ h => h) (yieldsIf_load_mid (by rfl) _ _ rfl _ _ rfl _ _ (fun w' h => hr6 w' (below_then hd10 hd10.size h)) hu24 rfl hszL) hS10 ?_
        (try dsimp only [Act.put])
        (try simp only [Act.put, List.setIfInBounds_toArray, List.set_cons_zero, List.set_cons_succ])
        refine hold_take (i := 30) (v := ?_) rfl (by kernel_rfl) (by kernel_rfl) (by kernel_rfl) (fun _ _ _ h => h) (Or.inl ⟨by rfl, ?_⟩) hS10 ?_
        rotate_left
        · intro w hSw; go_simp; try with_reducible rfl
        (try dsimp only [Act.put])
        (try simp only [Act.put, List.setIfInBounds_toArray, List.set_cons_zero, List.set_cons_succ])
        refine hold_call_ (i := 28) (by kernel_rfl) rfl (by rfl) (fun w6 w' => Below w6.heap.size w6 w') ?_
        intro K hK
        go_simp
        go_at_call 10
        refine (hcw.out _).mono ?_
        rintro e w11 ⟨v11, rfl, hl11, hb11⟩
        have hd11 := below_then hd10 hd10.size hb11
        refine hK _ _ hb11 (fun w2 h => below_then hb11 hb11.size h) ?_
        have hS11 := Below.refl w11.heap.size w11
        clear hK K
        obtain ⟨A11, c11, hv11, _, _⟩ := Kd.R_reads hl11
        rw [hLl.out] at hv11
        subst hv11
        clear hl11
        refine hold_take (i := 29) (v := ?_) rfl (by kernel_rfl) (by kernel_rfl) (by kernel_rfl) (fun _ _ _ h => h) (Or.inl ⟨by rfl, ?_⟩) hS11 ?_
        rotate_left
        · intro w hSw; go_simp; try with_reducible rfl
        (try dsimp only [Act.put])
        (try simp only [Act.put, List.setIfInBounds_toArray, List.set_cons_zero, List.set_cons_succ])
        refine hold_take (i := 31) (v := ?_) rfl (by kernel_rfl) (by kernel_rfl) (by kernel_rfl) (fun _ _ _ h => h) (Or.inl ⟨by rfl, ?_⟩) hS11 ?_
        rotate_left
        · intro w hSw; go_simp; try with_reducible rfl
        (try dsimp only [Act.put])
        (try simp only [Act.put, List.setIfInBounds_toArray, List.set_cons_zero, List.set_cons_succ])
        refine hold_take (i := 32) (v := ?_) rfl (by kernel_rfl) (by kernel_rfl) (by kernel_rfl) (fun _ _ _ h => h) (Or.inl ⟨by rfl, ?_⟩) hS11 ?_
        rotate_left
        · intro w hSw; go_simp; try with_reducible rfl
        (try dsimp only [Act.put])
        (try simp only [Act.put, List.setIfInBounds_toArray, List.set_cons_zero, List.set_cons_succ])
        refine wpAnyH_done (by kernel_rfl) ?_ _
        have hBW := Lib.hid (below_then hB5.out hz5 hd11)
        have hTW := Lib.hid (hT5'.out.below hd11)
        clear hS hS6 hS7 hS8 hS9 hS10 hS11 hd6 hd7 hd8 hd9 hd10 hd11 hb5d hr6 hb6 hb7 hb8 hb9 hb10 hb11 hM7 hE6
        clear hsz hsz0 hone hszL hu24
        clear hbk hrun hcw hof htb hen hmr hck hT5' hM5 hK5 hB5 hz5 hM4 hB4 hK4 hM3 hB3 hM2 hB2 hM1 hB1 hM hdF1 hdF2 hLl
        go_wp2
        go_loopw [9] (fun aa wr => ∃ a : Nat, a ≤ F ∧ aa = .int .i64 a ∧ Hid (Below w11.heap.size w11 wr)) (fun aa _ => F - (intOf aa).toNat)
        case atStart => exact ⟨0, by omega, rfl, Lib.hid (Below.refl _ _)⟩
        case round =>
          obtain ⟨a, ha, rfl, hba⟩ := hrel
          obtain ⟨wo, rfl⟩ : ∃ wo : World, wo = wr := ⟨_, rfl⟩
          by_cases hla : a < F
          · have hda : decide ((a : Int) < (F : Int)) = true := decide_eq_true (by omega)
            go_wp2
            go_loopw [10] (fun bb wr => ∃ b : Nat, b ≤ a ∧ bb = .int .i64 b ∧ Hid (Below w11.heap.size w11 wr)) (fun bb _ => a - (intOf bb).toNat)
            case atStart => exact ⟨0, by omega, rfl, hba⟩
            case round =>
              obtain ⟨b, hb, rfl, hbb⟩ := hrel
              obtain ⟨wp, rfl⟩ : ∃ wp : World, wp = wr := ⟨_, rfl⟩
              by_cases hlb : b < a
              · have hdb : decide ((b : Int) < (a : Int)) = true := decide_eq_true (by omega)
                have hnoH := Lib.hid (hno.out a b hla hlb)
                go_wp2
                go_loopw [11, 12] (fun sm ii wr => ∃ i : Nat, i ≤ m.length ∧ ii = .int .i64 i ∧ sm = .bool (CE a b i) ∧ Hid (Below w11.heap.size w11 wr)) (fun _ ii _ => m.length - (intOf ii).toNat)
                case atStart => exact ⟨0, by omega, rfl, by rw [hc0.out], hbb⟩
                case round =>
                  obtain ⟨i, hi, rfl, rfl, hbi⟩ := hrel
                  obtain ⟨wq, rfl⟩ : ∃ wq : World, wq = wr := ⟨_, rfl⟩
                  by_cases hli : i < m.length
                  · have hdi : decide ((i : Int) < (m.length : Int)) = true := decide_eq_true (by omega)
                    by_cases hsm : CE a b i = true
                    · obtain ⟨_, ad, A0, c0, rfl, hrow, hels⟩ := (hTW.out.below hbi.out).row i (by rw [htl.out]; exact hli)
                      rw [hrw.out i hli, hrl.out] at hrow hels
                      obtain ⟨ae, rfl, hela⟩ := hels a hla
                      obtain ⟨ae', he, helb⟩ := hels b (by omega)
                      injection he with he
                      subst he
                      clear hels
                      have hnx := Lib.hid (show CE a b (i + 1) = ((RW i).getD a 0 == (RW i).getD b 0) by rw [hce.out, hsm, Bool.true_and])
                      rw [hsm]
                      clear hsm
                      generalize (RW i).getD a 0 = x at *
                      generalize (RW i).getD b 0 = y at *
                      go_wp2_with fail
                      go_quiet (fail)
                      rename_i nq
                      have hbq := Lib.hid (below_then hbi.out hbi.out.size (pw_below_drewN (Below.refl wq.heap.size wq) nq))
                      go_wp2
                      go_roundw
                      case rel => exact ⟨i + 1, by omega, by go_num, by rw [hnx.out], hbq⟩
                      case measure => simp [intOf]; omega
                    · have hsf : CE a b i = false := by simpa using hsm
                      have hnx := Lib.hid (show CE a b (i + 1) = false by rw [hce.out, hsf, Bool.false_and])
                      rw [hsf]
                      clear hsm hsf
                      go_wp2_with fail
                      go_quiet (fail)
                      rename_i nq
                      have hbq := Lib.hid (below_then hbi.out hbi.out.size (pw_below_drewN (Below.refl wq.heap.size wq) nq))
                      go_wp2
                      go_roundw
                      case rel => exact ⟨i + 1, by omega, by go_num, by rw [hnx.out], hbq⟩
                      case measure => simp [intOf]; omega
                  · have hdi : decide ((i : Int) < (m.length : Int)) = false := decide_eq_false (by omega)
                    obtain rfl : i = m.length := by omega
                    rw [hnoH.out]
                    go_wp2
                    go_roundw
                    case rel => exact ⟨b + 1, by omega, by go_num, hbi⟩
                    case measure => simp [intOf]; omega
              · have hdb : decide ((b : Int) < (a : Int)) = false := decide_eq_false (by omega)
                go_wp2
                go_roundw
                case rel => exact ⟨a + 1, by omega, by go_num, hbb⟩
                case measure => simp [intOf]; omega
          · have hda : decide ((a : Int) < (F : Int)) = false := decide_eq_false (by omega)
            go_wp2
            go_ret
            exact ⟨rfl, below_then hBW.out hBW.out.size hba.out⟩
    · have hd2 : decide ((60 : Int) < (s.size : Int)) = true := decide_eq_true (by omega)
      go_enter Try.func5, Try.ntmps5
      go_wp2_with (go_at_call 7; refine (awake_c _).mono ?_; rintro e w1 ⟨rfl, hb1⟩)
      go_ret
      exact ⟨rfl, hb1⟩
  · have hd1 : decide ((20 : Int) < (m.length : Int)) = true := decide_eq_true (by omega)
    go_enter Try.func5, Try.ntmps5
    go_wp2_with (go_at_call 7; refine (awake_c _).mono ?_; rintro e w1 ⟨rfl, hb1⟩)
    go_ret
    exact ⟨rfl, hb1⟩
end Go.Proofs.Ytbhdpamepmkaiaa
