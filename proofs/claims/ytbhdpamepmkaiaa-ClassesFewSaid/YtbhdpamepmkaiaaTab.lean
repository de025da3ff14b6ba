/- classes.Table: its walk. Own text. -/
import Derived.Test.YtbhdpamepmkaiaaROg
namespace Go.Proofs.Ytbhdpamepmkaiaa
open Go.RowKit Go.Proofs.Ytbhdpamepmkaiaa.P Go.Proofs.Ytbhdpamepmkaiaa.Plain Go.Proofs.YtbhdpamepmkaiaaW.PrintWords Go.Proofs.YtbhdpamepmkaiaaW.PrintLast Go.Proofs.YtbhdpamepmkaiaaW.PrintMore
set_option linter.unusedVariables false

theorem info3 : (Try.prog.info? 3).map (fun i => (i.zero, i.size, i.bytes)) = some (some (.int .i64 0), 1, 8) := by kernel_rfl
theorem info44 : (Try.prog.info? 44).map (fun i => (i.zero, i.size, i.bytes)) = some (some (.slice none 0 0), 1, 24) := by kernel_rfl
/-- The kind of a row of numbers, as an element. -/
def kRow : Kd (List Int) := Kd.slice 3 (Kd.int .i64)
/-- A table that is read. -/
def IsT (w : World) (v : Value) (t : List (List Int)) : Prop := ∃ A c, v = .slice A t.length c ∧ t.length ≤ c ∧ Kd.C kRow w A t.length t
theorem IsT.below {w w' : World} {v : Value} {m : List (List Int)} (h : IsT w v m) (hb : Below w.heap.size w w') : IsT w' v m := by
  obtain ⟨A, c, h1, h2, h3⟩ := h
  exact ⟨A, c, h1, h2, Kd.C_below h3 hb⟩
def rowM (m : List S48) (i : Nat) : List Int := (lowsL (cls m)).map fun b => nextM m (i : Int) b
def tabM (m : List S48) : List (List Int) := (List.range m.length).map fun i => rowM m i
theorem lows_len (m : List S48) : (lowsL (cls m)).length ≤ 256 := by
  have h := mostL_bd (cls m) (cls_bd m) 256
  rw [lowsL, lowsD_len]; omega
/-- A row of numbers, the first k being told. -/
def rowK (m : List S48) (i k : Nat) : List Int := (rowM m i).take k ++ List.replicate ((lowsL (cls m)).length - k) 0
theorem rowK_len (m : List S48) (i k : Nat) (hk : k ≤ (lowsL (cls m)).length) : (rowK m i k).length = (lowsL (cls m)).length := by
  simp only [rowK, rowM, List.length_append, List.length_take, List.length_map, List.length_replicate]; omega
theorem rowK_step (m : List S48) (i k : Nat) (hk : k < (lowsL (cls m)).length) : (rowK m i k).set k (nextM m (i : Int) ((lowsL (cls m)).getD k 0)) = rowK m i (k + 1) := by
  have hl : (rowM m i).length = (lowsL (cls m)).length := by simp [rowM]
  have e : nextM m (i : Int) ((lowsL (cls m)).getD k 0) = (rowM m i)[k]'(by omega) := by simp [rowM, List.getD_eq_getElem?_getD, hk]
  obtain ⟨n, hn⟩ : ∃ n, (lowsL (cls m)).length - k = n + 1 := ⟨(lowsL (cls m)).length - k - 1, by omega⟩
  rw [e, rowK, rowK, hn, show (lowsL (cls m)).length - (k + 1) = n from by omega, List.replicate_succ, List.set_append_right _ _ (by simp; omega), List.take_succ_eq_append_getElem (by omega : k < (rowM m i).length)]
  have e2 : k - (List.take k (rowM m i)).length = 0 := by simp; omega
  rw [e2, List.set_cons_zero, List.append_assoc]; rfl

structure TabAt (w wr : World) (v : Value) (low : List Int) (o : Value) (out : List (List Int)) : Prop where
  l : (Kd.int .u8).R 5 wr w.heap.size (fun _ => True) v low
  o : kRow.R 44 wr w.heap.size (fun _ => True) o out
  b : Below w.heap.size w wr
theorem TabAt.below {w wr w1 : World} {v o : Value} {low : List Int} {out : List (List Int)} (h : TabAt w wr v low o out) (hb : Below wr.heap.size wr w1) : TabAt w w1 v low o out := by
  obtain ⟨h2, h3, h4⟩ := h
  exact ⟨Kd.R_below h2 hb, Kd.R_below h3 hb, below_then h4 h4.size hb⟩
/-- Such a slice as it is read. -/
theorem R_look {k : IntKind} {w : World} {e base : Nat} {ok : Nat → Prop} {A : Option Addr} {n c : Nat} {xs : List Int} (h : (Kd.int k).R e w base ok (.slice A n c) xs) (i : Nat) (hi : i < xs.length) :
    ∃ ad, A = some ad ∧ w.cell? (ad.add i) = some (.int k (xs.getD i 0)) := by
  obtain ⟨A', c', he, _, hC⟩ := Kd.R_reads h
  injection he with e1 e2 e3
  subst e1
  obtain ⟨ad, rfl, hc⟩ := Kd.at_int hC (i : Int) (by omega) (by omega)
  simp only [Int.toNat_natCast] at hc
  exact ⟨ad, rfl, by simpa [rd] using hc⟩

set_option maxRecDepth 20000 in
set_option maxHeartbeats 1000000 in
theorem table_c {w : World} {v : Value} {m : List S48} (h : IsM w v m) (hm : m.length ≤ 4096) :
    Calls Try.prog 13 #[v] w fun e w' => ∃ v0, e = .returned v0 ∧ IsT w' v0 (tabM m) ∧ Below w.heap.size w w' := by
  have hH := Lib.hid h
  have hcl := Lib.hid (partL_cls m)
  obtain ⟨A, c, rfl, h2, h3⟩ := h
  clear h2 h3
  go_enter Try.func13, Try.ntmps13
  have hOf := Lib.hid (of_c hH.out hm)
  rw [hcl.out] at hOf
  go_wp2_with (first
    | (go_at_call 8; refine (hOf.out).mono ?_; rintro e w1 ⟨rfl, hb1⟩)
    | (refine wpList_alloc_arr rfl 24 rfl zerosB zero24 ?_)
    | (refine wpList_store_row rfl 24 (.tmp 3) (.tmp 14) rfl w1.heap.size _ rfl rfl 24 zerosB (Blk.new w1 24 zerosB) ?_ ?_ (arI_one _ _) ?_; (rw [arI_size, cls_len]; exact size24'); (rw [arI_size, cls_len]; rfl))
    | (refine wpList_load_row rfl 24 (.tmp 3) rfl w1.heap.size rfl 24 _ (0, 0) _ ((Blk.new w1 24 zerosB).setRow_ _) Try.underlying24 rfl ?_ ?_; (rw [arI_size, cls_len]; exact size24'))
    | (go_at_call 10; refine (classes_Lows.calls (cls m) (cls_len m) (cls_bd m) _).mono ?_; rintro e w2 ⟨v0, rfl, hl2, hb2⟩))
  obtain ⟨A0, c0, hv0, hc0, hC0⟩ := Kd.R_reads hl2
  subst hv0
  have hsize : (w1.alloc (Obj.cells zerosB 24)).heap.size = w1.heap.size + 1 := World.size_alloc _ _
  have hT0 : TabAt w w2 (.slice A0 (lowsL (cls m)).length c0) (lowsL (cls m)) (.slice none 0 0) [] :=
    ⟨Kd.R_lower hl2 (by rw [size_setRow]; have := hb1.size; simp; omega), Kd.R_nil _ _ _ _ _, below_then (below_setRow_ (below_alloc (below_then (Below.refl _ _) (Nat.le_refl _) hb1) _) (by have := hb1.size; omega) _) (by rw [size_setRow]; have := hb1.size; simp; omega) hb2⟩
  clear hl2 hC0 hb1 hb2 hOf hsize
  have hLL := lows_len m
  generalize hLd : (lowsL (cls m)).length = L at *
  have hLH := Lib.hid hLd
  clear hLd hc0
  go_loopw [6, 20] (fun o ii wr => ∃ (i : Nat) (B : Option Addr) (cp : Nat), i ≤ m.length ∧ ii = .int .i64 i ∧ o = .slice B i cp ∧ TabAt w wr (.slice A0 L c0) (lowsL (cls m)) (.slice B i cp) ((List.range i).map (rowM m))) (fun _ i _ => m.length - (intOf i).toNat)
  case atStart => exact ⟨0, none, 0, by omega, rfl, rfl, hT0⟩
  case round =>
    clear hT0
    obtain ⟨i, B, cp, hi, rfl, rfl, hT⟩ := hrel
    obtain ⟨wo, rfl⟩ : ∃ wo : World, wo = wr := ⟨_, rfl⟩
    by_cases hlt : i < m.length
    · have hdb : decide ((i : Int) < (m.length : Int)) = true := decide_eq_true (by omega)
      go_wp2_with (refine wpList_make_exact rfl (.tmp 24) (.tmp 24) 44 rfl 3 (.int .i64 0) 8 Try.underlying44 info3 L _ rfl rfl rfl (by omega) (by omega) ?_)
      have hb0 := Lib.hid (Blk.new wo 3 (madeCells #[Value.int IntKind.i64 0] L))
      go_loopw [28] (fun kk wr => ∃ k : Nat, k ≤ L ∧ kk = .int .i64 k ∧ Hid (Blk wr wo.heap.size 3 (arI .i64 (rowK m i k))) ∧ Hid (Below wo.heap.size wo wr)) (fun kk _ => L - (intOf kk).toNat)
      case atStart =>
        refine ⟨0, by omega, rfl, ?_, Lib.hid (below_alloc (Below.refl _ _) _)⟩
        have h := hb0.out
        have e : rowK m i 0 = List.replicate L 0 := by rw [rowK, hLH.out]; simp
        rw [e, ← arI_made]; exact h
      case round =>
        obtain ⟨k, hk, rfl, hB, hbo⟩ := hrel
        by_cases hkl : k < L
        · obtain ⟨ad, hA0, hcell⟩ := R_look (hT.below hbo.out).l k (by rw [hLH.out]; exact hkl)
          subst hA0
          have hxe : Hid ((lowsL (cls m)).getD k 0 = (lowsL (cls m)).getD k 0) := rfl
          generalize hx : (lowsL (cls m)).getD k 0 = x at hcell
          have hxH := Lib.hid hx
          clear hx hxe
          have hst := Lib.hid (rowK_step m i k (by rw [hLH.out]; exact hkl))
          rw [hxH.out] at hst
          have hIM := Lib.hid ((hH.out.below hT.b).below hbo.out)
          have hrl := Lib.hid (rowK_len m i k (by rw [hLH.out]; omega))
          go_wp2_with (go_at_call 25; refine (next_c hIM.out _ _).mono ?_; rintro e w3 ⟨rfl, hb3⟩; have hB3 := Lib.hid (hB.out.below hb3 hB.out.lt); have hc3 := hB3.out.cellI k (by rw [hrl.out, hLH.out]; exact hkl); have hf3 := hB3.out.frozen k)
          go_roundw
          case rel =>
            refine ⟨k + 1, by omega, by go_num, ?_, ?_⟩
            · have h2 := hB3.out.setI k (nextM m i x)
              rw [hst.out] at h2; exact h2
            · exact (below_then hbo.out hbo.out.size hb3).setCell (by simp) _
          case measure => simp [intOf]; omega
        · obtain rfl : k = L := by omega
          have hrl := rowK_len m i k (by rw [hLH.out]; omega)
          have hre : rowK m i k = rowM m i := by
            have hl : (rowM m i).length = (lowsL (cls m)).length := by simp [rowM]
            rw [rowK, hLH.out, Nat.sub_self, List.replicate_zero, List.append_nil, List.take_of_length_le (by rw [hl, hLH.out]; omega)]
          have hT1 := Lib.hid (hT.below hbo.out)
          have hRow : Hid ((Kd.int .i64).R 3 wr w.heap.size (fun q => q = wo.heap.size) (.slice (some ⟨wo.heap.size, 0, none⟩) k k) (rowM m i)) := by
            have h := Blk.to_R hB.out (base := w.heap.size) (ok := fun q => q = wo.heap.size) hT.b.size (by rw [hrl, hLH.out]; simp only [maxLen]; omega) rfl
            rw [hrl, hLH.out, hre] at h; exact h
          have hne : Hid (some wo.heap.size ≠ (Value.slice B i cp).ownBlock) := Kd.R_ne hT1.out.o hB.out (by decide)
          clear hrl hre hT
          have hii : Hid (((List.range i).map (rowM m)).length = i) := by unfold Hid; simp
          go_wp2_with ((with_reducible refine gate_builtin (b := .append) (xs := #[.tmp 41, .tmp 43]) rfl ?_); at_builtin; refine Kd.R_append kRow (w0 := w) w.heap.size rfl (.tmp 41) (.tmp 43) 31 44 (.slice none 0 0) 24 rfl Try.underlying31 info44 rfl (by decide) (by omega) (.slice B i cp) ((List.range i).map (rowM m)) (rowM m i) [.slice (some ⟨wo.heap.size, 0, none⟩) k k] (fun _ => True) (fun q => q = wo.heap.size) rfl rfl ?aP ?aK ?aF ?aO ?aB ?aS ?aL ?_; (case aP => exact ⟨_, rfl, hRow.out⟩); (case aK => exact (fun q hq => ⟨trivial, by rw [hq]; exact hne.out⟩)); (case aF => exact (fun _ _ => trivial)); (case aO => exact hT1.out.o); (case aB => exact hT1.out.b); (case aS => exact hT1.out.b.size); (case aL => rw [hii.out]; omega); intro v1 w4 ho hb4 hg hat; obtain ⟨B1, cp1, hv1, _⟩ := Kd.R_reads ho; subst hv1; have hgH := Lib.hid hg; have hoH := Lib.hid ho; have hb4H := Lib.hid hb4; clear ho hg hat hb4)
          go_roundw
          case rel =>
            have hmap : (List.range (i + 1)).map (rowM m) = (List.range i).map (rowM m) ++ [rowM m i] := by rw [List.range_succ, List.map_append]; rfl
            refine ⟨i + 1, B1, cp1, by omega, by go_num, by simp, Kd.R_over hT1.out.l hT1.out.o (by intro q hq; simp [Kd.int, Kd.scalar] at hq; omega) hgH.out, ?_, hb4H.out⟩
            have h := hoH.out
            rw [hmap]; simpa using h
          case measure => simp [intOf]; omega
    · obtain rfl : i = m.length := by omega
      go_wp2
      go_ret
      obtain ⟨A1, c1, he1, hc1, hC1⟩ := Kd.R_reads hT.o
      injection he1 with e1 e2 e3
      subst e1 e3
      refine ⟨_, rfl, ⟨B, cp, ?_, ?_, hC1⟩, hT.b⟩
      · show Value.slice B m.length cp = Value.slice B (tabM m).length cp
        rw [show (tabM m).length = m.length from by simp [tabM]]
      · exact hc1
end Go.Proofs.Ytbhdpamepmkaiaa
