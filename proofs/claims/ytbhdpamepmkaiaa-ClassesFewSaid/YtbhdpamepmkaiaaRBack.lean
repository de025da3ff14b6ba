/- homographref10.Back: its walk. Own text. -/
import Derived.Test.YtbhdpamepmkaiaaBack
namespace Go.Proofs.Ytbhdpamepmkaiaa
open Go.RowKit Go.Proofs.Ytbhdpamepmkaiaa.P Go.Proofs.Ytbhdpamepmkaiaa.Plain Go.Proofs.YtbhdpamepmkaiaaW.PrintWords Go.Proofs.YtbhdpamepmkaiaaW.PrintLast Go.Proofs.YtbhdpamepmkaiaaW.PrintMore
set_option linter.unusedVariables false

def gR (cl : List Int) (t : List (List Int)) (i b : Nat) : Int :=
  if cl.getD b 0 < ((t.getD i []).length : Int) ∧ (t.getD i []).getD (cl.getD b 0).toNat 0 < (t.length : Int) then (t.getD i []).getD (cl.getD b 0).toNat 0 else -1
def toR (cl : List Int) (t : List (List Int)) (i : Nat) : List Int := (List.range 256).map (gR cl t i)
theorem toR_len (cl : List Int) (t : List (List Int)) (i : Nat) : (toR cl t i).length = 256 := by rw [toR, List.length_map, List.length_range]
theorem toR_get (cl : List Int) (t : List (List Int)) (i b : Nat) (hb : b < 256) : (toR cl t i).getD b 0 = gR cl t i b := by
  rw [toR, List.getD_eq_getElem?_getD, List.getElem?_map, List.getElem?_range hb]; rfl
/-- Below 0 all is one. -/
theorem rarcs_alike (u v : List Int) (n : Nat) (h : ∀ b, b < n → (u.getD b 0 < 0 ∧ v.getD b 0 < 0) ∨ u.getD b 0 = v.getD b 0) : rarcs u n = rarcs v n := by
  induction n with
  | zero => rfl
  | succ n ih =>
    rw [rarcs, rarcs, ih (fun b hb => h b (by omega))]
    rcases h n (by omega) with ⟨h1, h2⟩ | h1
    · rw [rstep, rstep, if_pos h1, if_pos h2]
    · rw [h1]
theorem rarcs_toR (cl : List Int) (t : List (List Int)) (i : Nat) (hi : i < t.length) : rarcs (toR cl t i) 256 = rarcs (toM cl t i) 256 := by
  apply rarcs_alike
  intro b hb
  rw [toR_get cl t i b hb, toM_get cl t i b hb]
  have he : entryM cl t (i : Int) b = if cl.getD b 0 < ((t.getD i []).length : Int) then (if (t.getD i []).getD (cl.getD b 0).toNat 0 < -1 then -1 else (t.getD i []).getD (cl.getD b 0).toNat 0) else -1 := by
    unfold entryM; rw [if_pos (by omega), Int.toNat_natCast]
  unfold gR gM
  rw [he]
  generalize (t.getD i []).getD (cl.getD b 0).toNat 0 = y
  generalize cl.getD b 0 = x
  generalize t.getD i [] = row
  by_cases h1 : x < (row.length : Int)
  · rw [if_pos h1]
    by_cases h2 : y < (t.length : Int)
    · rw [if_pos (show x < (row.length : Int) ∧ y < (t.length : Int) from ⟨h1, h2⟩)]
      by_cases h3 : y < -1
      · rw [if_pos h3, if_neg (by omega)]; left; omega
      · rw [if_neg h3, if_neg (by omega)]; right; rfl
    · rw [if_neg (fun h => h2 h.2), if_neg (show ¬ y < -1 by omega), if_pos (by omega)]; right; rfl
  · rw [if_neg (fun h => h1 h.1), if_neg h1, if_neg (by omega)]; right; rfl

set_option maxRecDepth 20000 in
set_option maxHeartbeats 2000000 in
theorem rback_c {w : World} {v ev : Value} {t : List (List Int)} {en : List Int} (h : IsT w v t) (cl : List Int) (hl : cl.length = 256) (hr : ∀ x ∈ cl, 0 ≤ x ∧ x ≤ 255) (he : IsU .u64 w ev en) (ht : t.length ≤ 4096) :
    Calls Try.prog 17 #[.agg (arI .u8 cl), v, ev] w fun e w' => ∃ v0, e = .returned v0 ∧ IsM w' v0 (backM cl t en) ∧ Below w.heap.size w w' := by
  have hT := Lib.hid h
  have hE := Lib.hid he
  have hB0 := Lib.hid (below_alloc (Below.refl w.heap.size w) (.cells (arI .u8 cl) 24))
  have hC0 := Lib.hid (Blk.new w 24 (arI .u8 cl))
  have hS0 : (w.alloc (.cells (arI .u8 cl) 24)).heap.size = w.heap.size + 1 := by simp
  have hsz : (Try.prog.info? 24).map (·.size) = some (arI .u8 cl).size := by rw [arI_size, hl]; exact size24'
  have hclg := Lib.hid (fun (W : World) (h : Blk W w.heap.size 24 (arI .u8 cl)) (b : Nat) (hb : b < 256) => h.cellI b (by rw [hl]; exact hb))
  have hrg := Lib.hid (fun (b : Nat) (hb : b < 256) => hr (cl.getD b 0) (by rw [List.getD_eq_getElem?_getD, List.getElem?_eq_getElem (by omega)]; exact List.getElem_mem _))
  obtain ⟨A, c, rfl, h2, h3⟩ := h
  obtain ⟨A1, c1, rfl, h21, h31⟩ := he
  have hlm : t.length ≤ 9223372036854775807 := h3.2.1
  have hle : en.length ≤ 9223372036854775807 := h31.2.1
  clear h2 h3 h21 h31 hl hr
  generalize hA : arI .u8 cl = C at *
  clear hA
  go_enter Try.func17, Try.ntmps17
  go_wp2_with fail
  have hI0 : BackAt (w.alloc (.cells C 24)) (w.alloc (.cells C 24)) (.slice none 0 0) [] := ⟨Kd.R_nil _ _ _ _ _, Below.refl _ _⟩
  have hS := Lib.hid hS0
  generalize w.alloc (.cells C 24) = W1 at *
  clear hS0
  go_loopw [7, 8] (fun o ii wr => ∃ (i : Nat) (B : Option Addr) (cp : Nat), i ≤ t.length ∧ ii = .int .i64 i ∧ o = .slice B i cp ∧ BackAt W1 wr (.slice B i cp) ((List.range i).map (stM cl t en))) (fun _ i _ => t.length - (intOf i).toNat)
  case atStart => exact ⟨0, none, 0, by omega, rfl, rfl, hI0⟩
  case round =>
    clear hI0
    obtain ⟨i, B, cp, hi, rfl, rfl, hR⟩ := hrel
    obtain ⟨wo, rfl⟩ : ∃ wo : World, wo = wr := ⟨_, rfl⟩
    have hRs := hR.b.size
    have hcC := Lib.hid (hC0.out.below hR.b (by have := hS.out; omega))
    have hwB := Lib.hid (below_then hB0.out hB0.out.size hR.b)
    have hRH := Lib.hid hR
    clear hR
    by_cases hlt : i < t.length
    · have hdb : decide ((i : Int) < (t.length : Int)) = true := decide_eq_true (by omega)
      have hPl : Hid ((toR cl t i).length = 256) := toR_len cl t i
      have hPg := Lib.hid (toR_get cl t i)
      have hst : Hid (stM cl t en i = ⟨en.getD i 0, rarcs (toR cl t i) 256⟩) := by unfold Hid; rw [rarcs_toR cl t i hlt]; rfl
      obtain ⟨ex, hex⟩ : ∃ ex, en.getD i 0 = ex := ⟨_, rfl⟩
      rw [hex] at hst
      have hexH := Lib.hid hex
      clear hex
      generalize toR cl t i = PP at *
      go_wp2_with (refine wpList_alloc_arr rfl 51 rfl zerosI zero51 ?_)
      go_loopw [10] (fun bb wr => ∃ b : Nat, b ≤ 256 ∧ bb = .int .i64 b ∧ Hid (Blk wr wo.heap.size 51 (arI .i64 (outL PP b))) ∧ Hid (Below wo.heap.size wo wr)) (fun bb _ => 256 - (intOf bb).toNat)
      case atStart =>
        refine ⟨0, by omega, rfl, ?_, Lib.hid (below_alloc (Below.refl _ _) _)⟩
        rw [outL_zero]; exact Blk.new wo 51 zerosI
      case round =>
        obtain ⟨b, hb, rfl, hB, hbo⟩ := hrel
        by_cases hlb : b < 256
        · have hdb2 : decide ((b : Int) < 256) = true := decide_eq_true (by omega)
          have hw2 : IntKind.u8.wrap (b : Int) = (b : Int) := by rw [IntKind.wrap_u8]; omega
          have hCb := Lib.hid (hcC.out.below hbo.out hcC.out.lt)
          have hbw := Lib.hid (below_then hwB.out hwB.out.size hbo.out)
          have hg := Lib.hid (hPg.out b hlb)
          rw [gR] at hg
          have hsetp := Lib.hid (outL_step PP hPl.out b hlb)
          have hlO := Lib.hid (outL_len' PP b hb hPl.out)
          have hwlt := hB.out.lt
          have hcx := hclg.out wr hCb.out b hlb
          have hxb := hrg.out b hlb
          generalize hold : outL PP b = OL at *
          have hc1 := hB.out.cellI b (by rw [hlO.out]; exact hlb)
          have hf1 := hB.out.frozen b
          have hB2 := Lib.hid (hB.out.setI b (-1))
          have hbo2 := Lib.hid (hbo.out.setCell (p := ⟨wo.heap.size, b, none⟩) (Nat.le_refl _) (.int .i64 (-1)))
          obtain ⟨_, ad, A0, c0, hA0, hrow, hels⟩ := (hT.out.below (below_then hwB.out hwB.out.size hbo2.out)).row i hlt
          subst hA0
          generalize cl.getD b 0 = x at *
          obtain ⟨n, rfl⟩ := Int.eq_ofNat_of_zero_le hxb.1
          simp only [Int.toNat_natCast] at hg
          generalize t.getD i [] = row at *
          have hrel : ∀ y W5, Hid (Blk W5 wo.heap.size 51 (arI .i64 (OL.set b y))) → Hid (Below wo.heap.size wo W5) → Hid (PP.getD b 0 = y) → Hid (Blk W5 wo.heap.size 51 (arI .i64 (outL PP (b + 1)))) := fun y W5 h1 _ h3 => by
            have h4 := h1.out
            rw [← h3.out, hsetp.out] at h4
            exact h4
          by_cases h2 : n < row.length
          · obtain ⟨ae, hae, hel⟩ := hels n h2
            subst hae
            clear hels
            have hd3 : decide ((n : Int) < (row.length : Int)) = true := decide_eq_true (by omega)
            have hn2 : (n : Int) < (row.length : Int) := by omega
            have hi2 : (i : Int) < (t.length : Int) := by omega
            generalize hyy : row.getD n 0 = y at *
            by_cases h3 : y < (t.length : Int)
            · have hd5 : decide (y < (t.length : Int)) = true := decide_eq_true h3
              rw [if_pos ⟨by omega, h3⟩] at hg
              have hc5 := hB2.out.cellI b (by rw [List.length_set, hlO.out]; exact hlb)
              have hf5 := hB2.out.frozen b
              have hB6 := Lib.hid (hB2.out.setI b y)
              rw [List.set_set] at hB6
              have hbo6 := Lib.hid (hbo2.out.setCell (p := ⟨wo.heap.size, b, none⟩) (Nat.le_refl _) (.int .i64 y))
              go_wp2
              go_roundw
              case rel => exact ⟨b + 1, by omega, by go_num, hrel _ _ hB6 hbo6 hg, hbo6⟩
              case measure => simp [intOf]; omega
            · have hd5 : decide (y < (t.length : Int)) = false := decide_eq_false h3
              rw [if_neg (fun h => h3 h.2)] at hg
              go_wp2
              go_roundw
              case rel => exact ⟨b + 1, by omega, by go_num, hrel _ _ hB2 hbo2 hg, hbo2⟩
              case measure => simp [intOf]; omega
          · have hd3 : decide ((n : Int) < (row.length : Int)) = false := decide_eq_false (by omega)
            have hi2 : (i : Int) < (t.length : Int) := by omega
            rw [if_neg (fun h => by omega)] at hg
            clear hels
            go_wp2
            go_roundw
            case rel => exact ⟨b + 1, by omega, by go_num, hrel _ _ hB2 hbo2 hg, hbo2⟩
            case measure => simp [intOf]; omega
        · obtain rfl : b = 256 := by omega
          rw [outL_full PP hPl.out] at hB
          have hwlt := hB.out.lt
          have hCb := Lib.hid (hcC.out.below hbo.out hcC.out.lt)
          have hbw := Lib.hid (below_then hwB.out hwB.out.size hbo.out)
          have hsz2 : (Try.prog.info? 51).map (·.size) = some (arI .i64 PP).size := by rw [arI_size, hPl.out]; exact size51
          have harc := Lib.hid (rarcs_c PP hPl.out wr)
          have hRo := Lib.hid (Kd.R_below hRH.out.o hbo.out)
          generalize hA2 : arI .i64 PP = D at *
          have hii : Hid (((List.range i).map (stM cl t en)).length = i) := by unfold Hid; simp
          have hlo : Hid (W1.heap.size ≤ wr.heap.size) := Nat.le_trans hRs hbo.out.size
          by_cases hie : i < en.length
          · have hd4 : decide ((i : Int) < (en.length : Int)) = true := decide_eq_true (by omega)
            obtain ⟨ae, hae, hce⟩ := hE.out.at_ i hie
            subst hae
            clear hce
            go_wp2_with (first
              | (refine wpList_load_row rfl 51 (.tmp 9) rfl wo.heap.size rfl 51 _ (0, 0) _ hB.out Try.underlying51 rfl hsz2 ?_)
              | (go_at_call 30; refine harc.out.mono ?_; rintro e' w2 ⟨v0, rfl, hr2, hb2⟩; obtain ⟨A2, c2, hv0, _, _⟩ := Kd.R_reads hr2; subst hv0; generalize hLn : (rarcs PP 256).length = ln at *; have hE3 := Lib.hid ((hE.out.below (below_then hbw.out hbw.out.size hb2)).below (below_alloc (Below.refl w2.heap.size w2) (.cells #[.int .u64 0, .slice A2 ln c2] 48))); have hce3 := hE3.out.at2 i hie; rw [hexH.out] at hce3; have hB3 := Blk.new w2 48 #[.int .u64 0, .slice A2 ln c2]; have hc3 := hB3.cell 0; have hf3 := hB3.frozen 0; have hb4 := Lib.hid (below_alloc (Below.refl w2.heap.size w2) (.cells #[.int .u64 ex, .slice A2 ln c2] 48)); have hB4 := Blk.new w2 48 #[.int .u64 ex, .slice A2 ln c2]; have hrn := Lib.hid (Kd.R_below (Kd.R_lower (Kd.R_newR hr2 hRo.out) hlo.out) hb4.out); have hoo := Lib.hid (Kd.R_below (Kd.R_below hRo.out hb2) (Below.weaken_ hb2 hb4.out)); have hbb := Lib.hid (below_then (below_then (below_then hRH.out.b hRH.out.b.size hbo.out) (by have h1 := hbo.out.size; have h2 := hRH.out.b.size; omega) hb2) (by have h0 := hb2.size; have h1 := hbo.out.size; have h2 := hRH.out.b.size; omega) hb4.out); have hss := hbb.out.size; clear hr2 hb2)
              | (refine wpList_alloc_arr rfl 48 rfl #[.int .u64 0, .slice none 0 0] zero48 ?_)
              | (refine wpList_store_row rfl 48 (.tmp 12) (.tmp 59) rfl w2.heap.size _ rfl rfl 48 _ (Blk.new w2 48 _) size48 rfl rfl ?_)
              | (refine wpList_load_row rfl 48 (.tmp 12) rfl w2.heap.size rfl 48 _ (0, 0) _ hB4 Try.underlying48 rfl size48 ?_)
              | ((with_reducible refine gate_builtin (b := .append) (xs := #[.tmp 69, .tmp 71]) rfl ?_); at_builtin; go_loud (refine Kd.R_append k48 (w0 := W1) W1.heap.size rfl (.tmp 69) (.tmp 71) 23 48 _ 32 rfl Try.underlying23 info48' rfl (by decide) (by omega) (.slice B i cp) ((List.range i).map (stM cl t en)) (stM cl t en i) [.int .u64 ex, .slice A2 ln c2] (fun _ => True) (fun q => True ∧ some q ≠ (Value.slice B i cp).ownBlock) rfl ((show _ = Value.slice (some ⟨w2.heap.size + 1, 0, none⟩) 1 1 from rfl).trans (by simp)) ?aP ?aK ?aF ?aO ?aB ?aS ?aL ?_; (case aP => rw [hst.out]; exact k48_mkM _ _ _ ⟨ex, rarcs PP 256⟩ hrn.out); (case aK => exact (fun q hq => hq)); (case aF => exact (fun _ _ => trivial)); (case aO => exact hoo.out); (case aB => exact hbb.out); (case aS => exact hss); (case aL => rw [hii.out]; omega); intro v1 w4 ho hb5 hg hat; obtain ⟨B1, cp1, hv1, _⟩ := Kd.R_reads ho; subst hv1; have hoH := Lib.hid ho; have hb5H := Lib.hid hb5; clear ho hg hat hb5)))
            go_roundw
            case rel =>
              have hmap : (List.range (i + 1)).map (stM cl t en) = (List.range i).map (stM cl t en) ++ [stM cl t en i] := by rw [List.range_succ, List.map_append]; rfl
              refine ⟨i + 1, B1, cp1, by omega, by go_num, by simp, ?_, hb5H.out⟩
              have h := hoH.out
              rw [hmap]; simpa using h
            case measure => simp [intOf]; omega
          · have hd4 : decide ((i : Int) < (en.length : Int)) = false := decide_eq_false (by omega)
            have hz : ex = 0 := by rw [← hexH.out]; rw [List.getD_eq_getElem?_getD, List.getElem?_eq_none (by omega)]; rfl
            go_wp2_with (first
              | (refine wpList_load_row rfl 51 (.tmp 9) rfl wo.heap.size rfl 51 _ (0, 0) _ hB.out Try.underlying51 rfl hsz2 ?_)
              | (go_at_call 30; refine harc.out.mono ?_; rintro e' w2 ⟨v0, rfl, hr2, hb2⟩; obtain ⟨A2, c2, hv0, _, _⟩ := Kd.R_reads hr2; subst hv0; generalize hLn : (rarcs PP 256).length = ln at *; have hE3 := Lib.hid ((hE.out.below (below_then hbw.out hbw.out.size hb2)).below (below_alloc (Below.refl w2.heap.size w2) (.cells #[.int .u64 0, .slice A2 ln c2] 48))); have hB4 := Blk.new w2 48 #[.int .u64 0, .slice A2 ln c2]; have hb4 := Lib.hid (below_alloc (Below.refl w2.heap.size w2) (.cells #[.int .u64 0, .slice A2 ln c2] 48)); have hrn := Lib.hid (Kd.R_below (Kd.R_lower (Kd.R_newR hr2 hRo.out) hlo.out) hb4.out); have hoo := Lib.hid (Kd.R_below (Kd.R_below hRo.out hb2) (Below.weaken_ hb2 hb4.out)); have hbb := Lib.hid (below_then (below_then (below_then hRH.out.b hRH.out.b.size hbo.out) (by have h1 := hbo.out.size; have h2 := hRH.out.b.size; omega) hb2) (by have h0 := hb2.size; have h1 := hbo.out.size; have h2 := hRH.out.b.size; omega) hb4.out); have hss := hbb.out.size; clear hr2 hb2)
              | (refine wpList_alloc_arr rfl 48 rfl #[.int .u64 0, .slice none 0 0] zero48 ?_)
              | (refine wpList_store_row rfl 48 (.tmp 12) (.tmp 59) rfl w2.heap.size _ rfl rfl 48 _ (Blk.new w2 48 _) size48 rfl rfl ?_)
              | (refine wpList_load_row rfl 48 (.tmp 12) rfl w2.heap.size rfl 48 _ (0, 0) _ hB4 Try.underlying48 rfl size48 ?_)
              | ((with_reducible refine gate_builtin (b := .append) (xs := #[.tmp 69, .tmp 71]) rfl ?_); at_builtin; go_loud (refine Kd.R_append k48 (w0 := W1) W1.heap.size rfl (.tmp 69) (.tmp 71) 23 48 _ 32 rfl Try.underlying23 info48' rfl (by decide) (by omega) (.slice B i cp) ((List.range i).map (stM cl t en)) (stM cl t en i) [.int .u64 0, .slice A2 ln c2] (fun _ => True) (fun q => True ∧ some q ≠ (Value.slice B i cp).ownBlock) rfl ((show _ = Value.slice (some ⟨w2.heap.size + 1, 0, none⟩) 1 1 from rfl).trans (by simp)) ?aP ?aK ?aF ?aO ?aB ?aS ?aL ?_; (case aP => rw [hst.out]; exact k48_mkM_z hz hrn.out); (case aK => exact (fun q hq => hq)); (case aF => exact (fun _ _ => trivial)); (case aO => exact hoo.out); (case aB => exact hbb.out); (case aS => exact hss); (case aL => rw [hii.out]; omega); intro v1 w4 ho hb5 hg hat; obtain ⟨B1, cp1, hv1, _⟩ := Kd.R_reads ho; subst hv1; have hoH := Lib.hid ho; have hb5H := Lib.hid hb5; clear ho hg hat hb5)))
            go_roundw
            case rel =>
              have hmap : (List.range (i + 1)).map (stM cl t en) = (List.range i).map (stM cl t en) ++ [stM cl t en i] := by rw [List.range_succ, List.map_append]; rfl
              refine ⟨i + 1, B1, cp1, by omega, by go_num, by simp, ?_, hb5H.out⟩
              have h := hoH.out
              rw [hmap]; simpa using h
            case measure => simp [intOf]; omega
    · obtain rfl : i = t.length := by omega
      go_wp2
      go_ret
      obtain ⟨A2, c2, he1, hc1, hC1⟩ := Kd.R_reads hRH.out.o
      injection he1 with e1 e2 e3
      subst e1 e3
      refine ⟨_, rfl, ⟨B, cp, ?_, hc1, hC1⟩, hwB.out⟩
      show Value.slice B t.length cp = Value.slice B (backM cl t en).length cp
      rw [show (backM cl t en).length = t.length from by simp [backM]]
end Go.Proofs.Ytbhdpamepmkaiaa
