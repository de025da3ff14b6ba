/- homographref10.Table: its walk. Own text. -/
import Derived.Test.YtbhdpamepmkaiaaTab
namespace Go.Proofs.Ytbhdpamepmkaiaa
open Go.RowKit Go.Proofs.Ytbhdpamepmkaiaa.P Go.Proofs.Ytbhdpamepmkaiaa.Plain Go.Proofs.YtbhdpamepmkaiaaW.PrintWords Go.Proofs.YtbhdpamepmkaiaaW.PrintLast Go.Proofs.YtbhdpamepmkaiaaW.PrintMore
set_option linter.unusedVariables false
theorem map_take {α β : Type} (f : α → β) (d : α) (l : List α) (k : Nat) (hk : k < l.length) : (l.map f).take (k + 1) = (l.map f).take k ++ [f (l.getD k d)] := by
  rw [List.take_succ_eq_append_getElem (by rw [List.length_map]; exact hk), List.getElem_map, List.getD_eq_getElem?_getD, List.getElem?_eq_getElem hk]; rfl
theorem rowM_take (m : List S48) (i k : Nat) (hk : k < (lowsL (cls m)).length) : (rowM m i).take (k + 1) = (rowM m i).take k ++ [nextM m (i : Int) ((lowsL (cls m)).getD k 0)] :=
  map_take (fun b => nextM m (i : Int) b) 0 (lowsL (cls m)) k hk

set_option maxRecDepth 20000 in
set_option maxHeartbeats 1000000 in
theorem rtable_c {w : World} {v : Value} {m : List S48} (h : IsM w v m) (hm : m.length ≤ 4096) :
    Calls Try.prog 14 #[v] w fun e w' => ∃ v0, e = .returned v0 ∧ IsT w' v0 (tabM m) ∧ Below w.heap.size w w' := by
  have hH := Lib.hid h
  obtain ⟨A, c, rfl, h2, h3⟩ := h
  clear h2 h3
  go_enter Try.func14, Try.ntmps14
  have hOf := Lib.hid (rof_c hH.out hm)
  go_wp2_with (first
    | (go_at_call 9; refine (hOf.out).mono ?_; rintro e w1 ⟨rfl, hb1⟩)
    | (refine wpList_alloc_arr rfl 24 rfl zerosB zero24 ?_)
    | (refine wpList_store_row rfl 24 (.tmp 3) (.tmp 13) rfl w1.heap.size _ rfl rfl 24 zerosB (Blk.new w1 24 zerosB) ?_ ?_ (arI_one _ _) ?_; (rw [arI_size, cls_len]; exact size24'); (rw [arI_size, cls_len]; rfl))
    | (refine wpList_load_row rfl 24 (.tmp 3) rfl w1.heap.size rfl 24 _ (0, 0) _ ((Blk.new w1 24 zerosB).setRow_ _) Try.underlying24 rfl ?_ ?_; (rw [arI_size, cls_len]; exact size24'))
    | (go_at_call 11; refine (ref_Lows_calls (cls m) (cls_len m) (cls_bd m) _).mono ?_; rintro e w2 ⟨v0, rfl, hl2, hb2⟩))
  obtain ⟨A0, c0, hv0, hc0, hC0⟩ := Kd.R_reads hl2
  subst hv0
  have hT0 : TabAt w w2 (.slice A0 (lowsL (cls m)).length c0) (lowsL (cls m)) (.slice none 0 0) [] :=
    ⟨Kd.R_lower hl2 (by rw [size_setRow]; have := hb1.size; simp; omega), Kd.R_nil _ _ _ _ _, below_then (below_setRow_ (below_alloc (below_then (Below.refl _ _) (Nat.le_refl _) hb1) _) (by have := hb1.size; omega) _) (by rw [size_setRow]; have := hb1.size; simp; omega) hb2⟩
  clear hl2 hC0 hb1 hb2 hOf
  have hLL := lows_len m
  generalize hLd : (lowsL (cls m)).length = L at *
  have hLH := Lib.hid hLd
  clear hLd hc0
  go_loopw [6, 7] (fun o ii wr => ∃ (i : Nat) (B : Option Addr) (cp : Nat), i ≤ m.length ∧ ii = .int .i64 i ∧ o = .slice B i cp ∧ TabAt w wr (.slice A0 L c0) (lowsL (cls m)) (.slice B i cp) ((List.range i).map (rowM m))) (fun _ i _ => m.length - (intOf i).toNat)
  case atStart => exact ⟨0, none, 0, by omega, rfl, rfl, hT0⟩
  case round =>
    clear hT0
    obtain ⟨i, B, cp, hi, rfl, rfl, hT⟩ := hrel
    obtain ⟨wo, rfl⟩ : ∃ wo : World, wo = wr := ⟨_, rfl⟩
    by_cases hlt : i < m.length
    · have hdb : decide ((i : Int) < (m.length : Int)) = true := decide_eq_true (by omega)
      have hrl : (rowM m i).length = L := by rw [rowM, List.length_map, hLH.out]
      have hrlH := Lib.hid hrl
      clear hrl
      go_wp2_with fail
      go_loopw [8, 9] (fun row kk wr => ∃ (k : Nat) (D : Option Addr) (dp : Nat), k ≤ L ∧ kk = .int .i64 k ∧ row = .slice D k dp ∧ Hid ((Kd.int .i64).R 3 wr wo.heap.size (fun _ => True) (.slice D k dp) ((rowM m i).take k)) ∧ Hid (Below wo.heap.size wo wr)) (fun _ kk _ => L - (intOf kk).toNat)
      case atStart => exact ⟨0, none, 0, by omega, rfl, rfl, Lib.hid (Kd.R_nil _ _ _ _ _), Lib.hid (Below.refl _ _)⟩
      case round =>
        obtain ⟨k, D, dp, hk, rfl, rfl, hB, hbo⟩ := hrel
        by_cases hkl : k < L
        · obtain ⟨ad, hA0, hcell⟩ := R_look (hT.below hbo.out).l k (by rw [hLH.out]; exact hkl)
          subst hA0
          generalize hx : (lowsL (cls m)).getD k 0 = x at hcell
          have hst : Hid ((rowM m i).take (k + 1) = (rowM m i).take k ++ [nextM m (i : Int) x]) := by
            unfold Hid; rw [rowM_take m i k (by rw [hLH.out]; exact hkl), hx]
          have hxH := Lib.hid hx
          clear hx
          have hIM := Lib.hid ((hH.out.below hT.b).below hbo.out)
          have hkk : Hid (((rowM m i).take k).length = k) := by unfold Hid; rw [List.length_take, hrlH.out]; omega
          have hdk : decide ((k : Int) < (L : Int)) = true := decide_eq_true (by omega)
          go_wp2_with (first
            | (go_at_call 27; refine (rnext_c hIM.out _ _).mono ?_; rintro e w3 ⟨rfl, hb3⟩; have hB3 := Lib.hid (Kd.R_below hB.out hb3); have hbo3 := Lib.hid (below_then hbo.out hbo.out.size hb3))
            | ((with_reducible refine gate_builtin (b := .append) (xs := #[.tmp 29, .tmp 37]) rfl ?_); at_builtin; refine Kd.R_append (Kd.int .i64) (w0 := wo) wo.heap.size rfl (.tmp 29) (.tmp 37) 44 3 (.int .i64 0) 8 rfl Try.underlying44 info3 rfl (by decide) (by omega) (.slice D k dp) ((rowM m i).take k) (nextM m i x) [.int .i64 (nextM m i x)] (fun _ => True) (fun _ => False) rfl rfl ?aP (fun _ hk => hk.elim) ?aF ?aO ?aB ?aS ?aL ?_; (case aP => exact rfl); (case aF => exact (fun _ _ => trivial)); (case aO => exact hB3.out); (case aB => exact hbo3.out); (case aS => exact hbo3.out.size); (case aL => rw [hkk.out]; omega); intro v1 w4 ho hb4 hg hat; obtain ⟨B1, cp1, hv1, _⟩ := Kd.R_reads ho; subst hv1; have hoH := Lib.hid ho; have hb4H := Lib.hid hb4; clear ho hg hat hb4))
          go_roundw
          case rel =>
            have hlen : ((rowM m i).take k ++ [nextM m (i : Int) x]).length = k + 1 := by rw [List.length_append, hkk.out]; rfl
            refine ⟨k + 1, B1, cp1, by omega, by go_num, by rw [← hlen]; simp, ?_, hb4H⟩
            have h2 := hoH.out
            rw [hlen] at h2
            rw [hst.out]; exact h2
          case measure => simp [intOf]; omega
        · obtain rfl : k = L := by omega
          have hre : (rowM m i).take k = rowM m i := by rw [List.take_of_length_le (by rw [hrlH.out]; omega)]
          have hT1 := Lib.hid (hT.below hbo.out)
          have hB2 := hB.out
          rw [hre] at hB2
          have hRow := Lib.hid (Kd.R_newR hB2 hT.o)
          clear hre hB2
          have hws := hT.b.size
          have hTH := Lib.hid hT
          clear hT
          have hii : Hid (((List.range i).map (rowM m)).length = i) := by unfold Hid; simp
          have hdk : decide ((k : Int) < (k : Int)) = false := by simp
          go_wp2_with ((with_reducible refine gate_builtin (b := .append) (xs := #[.tmp 39, .tmp 41]) rfl ?_); at_builtin; refine Kd.R_append kRow (w0 := w) w.heap.size rfl (.tmp 39) (.tmp 41) 31 44 (.slice none 0 0) 24 rfl Try.underlying31 info44 rfl (by decide) (by omega) (.slice B i cp) ((List.range i).map (rowM m)) (rowM m i) [.slice D k dp] (fun _ => True) (fun q => True ∧ some q ≠ (Value.slice B i cp).ownBlock) rfl rfl ?aP ?aK ?aF ?aO ?aB ?aS ?aL ?_; (case aP => exact ⟨_, rfl, Kd.R_lower hRow.out hws⟩); (case aK => exact (fun q hq => hq)); (case aF => exact (fun _ _ => trivial)); (case aO => exact hT1.out.o); (case aB => exact hT1.out.b); (case aS => exact hT1.out.b.size); (case aL => rw [hii.out]; omega); intro v1 w4 ho hb4 hg hat; obtain ⟨B1, cp1, hv1, _⟩ := Kd.R_reads ho; subst hv1; have hgH := Lib.hid hg; have hoH := Lib.hid ho; have hb4H := Lib.hid hb4; clear ho hg hat hb4)
          go_roundw
          case rel =>
            have hmap : (List.range (i + 1)).map (rowM m) = (List.range i).map (rowM m) ++ [rowM m i] := by rw [List.range_succ, List.map_append]; rfl
            refine ⟨i + 1, B1, cp1, by omega, by go_num, by simp, Kd.R_over hT1.out.l hT1.out.o (by intro q hq; simp [Kd.int, Kd.scalar] at hq; omega) hgH.out, ?_, hb4H.out⟩
            have h := hoH.out
            rw [hmap]; simpa using h
          case measure => simp [intOf]; omega
    · obtain rfl : i = m.length := by omega
      go_wp2
      go_ret
      obtain ⟨A1, c1, he1, hc1, hC1⟩ := Kd.R_reads hT.o
      injection he1 with e1 e2 e3
      subst e1 e3
      refine ⟨_, rfl, ⟨B, cp, ?_, ?_, hC1⟩, hT.b⟩
      · show Value.slice B m.length cp = Value.slice B (tabM m).length cp
        rw [show (tabM m).length = m.length from by simp [tabM]]
      · exact hc1
end Go.Proofs.Ytbhdpamepmkaiaa
