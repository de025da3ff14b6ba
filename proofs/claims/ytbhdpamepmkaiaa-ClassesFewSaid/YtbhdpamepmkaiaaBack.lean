/- classes.Back: its walk. Own text. -/
import Derived.Test.YtbhdpamepmkaiaaRArcs
namespace Go.Proofs.Ytbhdpamepmkaiaa
open Go.RowKit Go.Proofs.Ytbhdpamepmkaiaa.P Go.Proofs.Ytbhdpamepmkaiaa.Plain Go.Proofs.YtbhdpamepmkaiaaW.PrintWords Go.Proofs.YtbhdpamepmkaiaaW.PrintLast Go.Proofs.YtbhdpamepmkaiaaW.PrintMore
set_option linter.unusedVariables false

theorem info48' : (Try.prog.info? 48).map (fun i => (i.zero, i.size, i.bytes)) = some (some (.agg #[.int .u64 0, .slice none 0 0]), 2, 32) := by kernel_rfl
theorem size48 : (Try.prog.info? 48).map (·.size) = some 2 := by kernel_rfl
theorem zero48 : ∀ w : World, (zeroValue 48).run Try.prog w = .ok (.agg #[.int .u64 0, .slice none 0 0]) w := fun _ => by kernel_rfl
def gM (cl : List Int) (t : List (List Int)) (i b : Nat) : Int := if (t.length : Int) ≤ entryM cl t (i : Int) b then -1 else entryM cl t (i : Int) b
def toM (cl : List Int) (t : List (List Int)) (i : Nat) : List Int := (List.range 256).map (gM cl t i)
theorem toM_len (cl : List Int) (t : List (List Int)) (i : Nat) : (toM cl t i).length = 256 := by rw [toM, List.length_map, List.length_range]
theorem toM_get (cl : List Int) (t : List (List Int)) (i b : Nat) (hb : b < 256) : (toM cl t i).getD b 0 = gM cl t i b := by
  rw [toM, List.getD_eq_getElem?_getD, List.getElem?_map, List.getElem?_range hb]; rfl
/-- The row i of the machine. -/
def stM (cl : List Int) (t : List (List Int)) (en : List Int) (i : Nat) : S48 := ⟨en.getD i 0, rarcs (toM cl t i) 256⟩
def backM (cl : List Int) (t : List (List Int)) (en : List Int) : List S48 := (List.range t.length).map (stM cl t en)
/-- Numbers that are read. -/
def IsU (k : IntKind) (w : World) (v : Value) (l : List Int) : Prop := ∃ A c, v = .slice A l.length c ∧ l.length ≤ c ∧ (Kd.int k).C w A l.length l
theorem IsU.below {k : IntKind} {w w' : World} {v : Value} {m : List Int} (h : IsU k w v m) (hb : Below w.heap.size w w') : IsU k w' v m := by
  obtain ⟨A, c, h1, h2, h3⟩ := h
  exact ⟨A, c, h1, h2, Kd.C_below h3 hb⟩
theorem IsU.at_ {k : IntKind} {w : World} {A : Option Addr} {n c : Nat} {l : List Int} (h : IsU k w (.slice A n c) l) (i : Nat) (hi : i < l.length) : ∃ ad, A = some ad ∧ w.cell? (ad.add i) = some (.int k (l.getD i 0)) := by
  obtain ⟨A', c', he, _, hC⟩ := h
  injection he with e1 e2 e3
  subst e1
  obtain ⟨ad, rfl, hc⟩ := Kd.at_int hC (i : Int) (by omega) (by omega)
  simp only [Int.toNat_natCast] at hc
  exact ⟨ad, rfl, by simpa [rd] using hc⟩
theorem IsU.of_R {k : IntKind} {w : World} {e base : Nat} {ok : Nat → Prop} {v : Value} {l : List Int} (h : (Kd.int k).R e w base ok v l) : IsU k w v l := Kd.R_reads h
theorem outL_zero (PP : List Int) : outL PP 0 = List.replicate 256 0 := by unfold outL; rw [List.take_zero, Nat.sub_zero, List.nil_append]
theorem outL_full (PP : List Int) (h : PP.length = 256) : outL PP 256 = PP := by unfold outL; rw [List.take_of_length_le (by omega)]; simp
theorem outL_len' (PP : List Int) (b : Nat) (hb : b ≤ 256) (h : PP.length = 256) : (outL PP b).length = 256 := by simp only [outL, List.length_append, List.length_take, List.length_replicate, h]; omega
theorem getD_set_eq (l : List Int) (b : Nat) (e : Int) (h : b < l.length) : (l.set b e).getD b 0 = e := by rw [List.getD_eq_getElem?_getD, List.getElem?_set_self h]; rfl
theorem setI_cell {w : World} {g : Nat} {t : TypeId} {k : IntKind} {l : List Int} (h : Blk w g t (arI k l)) (b : Nat) (e : Int) (hb : b < l.length) : (w.setCell ⟨g, b, none⟩ (.int k e)).cell? ⟨g, b, none⟩ = some (.int k e) := by
  have h2 := (h.setI b e).cellI b (by rw [List.length_set]; exact hb)
  rwa [getD_set_eq l b e hb] at h2
theorem below_setRow0 {w W : World} (h : Below w.heap.size w W) (u : Value) : Below w.heap.size w (W.setCell ⟨w.heap.size, 0, none⟩ u) := h.setCell (Nat.le_refl _) u
theorem Below.weaken_ {n : Nat} {w2 W : World} {wr : World} (h : Below n wr w2) (hb : Below w2.heap.size w2 W) : Below w2.heap.size w2 W := hb
theorem k48_mkM_z {w : World} {base : Nat} {ok : Nat → Prop} {z : Int} {l : List S50} {v1 : Value} (hz : z = 0) (g1 : k50.R 50 w base ok v1 l) : k48.M w base ok ⟨z, l⟩ [.int .u64 0, v1] := by subst hz; exact k48_mkM w base ok ⟨0, l⟩ g1
structure BackAt (W1 wr : World) (o : Value) (out : List S48) : Prop where
  o : k48.R 48 wr W1.heap.size (fun _ => True) o out
  b : Below W1.heap.size W1 wr
theorem IsU.at2 {k : IntKind} {w : World} {ad : Addr} {n c : Nat} {l : List Int} (h : IsU k w (.slice (some ad) n c) l) (i : Nat) (hi : i < l.length) : w.cell? (ad.add i) = some (.int k (l.getD i 0)) := by
  obtain ⟨ad', e, hc⟩ := h.at_ i hi
  injection e with e
  subst e; exact hc

set_option maxRecDepth 20000 in
set_option maxHeartbeats 2000000 in
theorem back_c {w : World} {v ev : Value} {t : List (List Int)} {en : List Int} (h : IsT w v t) (cl : List Int) (hl : cl.length = 256) (hr : ∀ x ∈ cl, 0 ≤ x ∧ x ≤ 255) (he : IsU .u64 w ev en) (ht : t.length ≤ 4096) :
    Calls Try.prog 16 #[.agg (arI .u8 cl), v, ev] w fun e w' => ∃ v0, e = .returned v0 ∧ IsM w' v0 (backM cl t en) ∧ Below w.heap.size w w' := by
  have hT := Lib.hid h
  have hE := Lib.hid he
  have hB0 := Lib.hid (below_alloc (Below.refl w.heap.size w) (.cells (arI .u8 cl) 24))
  have hC0 := Lib.hid (Blk.new w 24 (arI .u8 cl))
  have hS0 : (w.alloc (.cells (arI .u8 cl) 24)).heap.size = w.heap.size + 1 := by simp
  have hsz : (Try.prog.info? 24).map (·.size) = some (arI .u8 cl).size := by rw [arI_size, hl]; exact size24'
  have hent := Lib.hid (fun (W : World) (hb : Below w.heap.size w W) (i b : Nat) (hbb : b < 256) => entry_c (hT.out.below hb) cl hl hr (i : Int) b hbb)
  obtain ⟨A, c, rfl, h2, h3⟩ := h
  obtain ⟨A1, c1, rfl, h21, h31⟩ := he
  have hlm : t.length ≤ 9223372036854775807 := h3.2.1
  have hle : en.length ≤ 9223372036854775807 := h31.2.1
  clear h2 h3 h21 h31 hl hr
  generalize hA : arI .u8 cl = C at *
  clear hA
  go_enter Try.func16, Try.ntmps16
  go_wp2_with fail
  have hI0 : BackAt (w.alloc (.cells C 24)) (w.alloc (.cells C 24)) (.slice none 0 0) [] := ⟨Kd.R_nil _ _ _ _ _, Below.refl _ _⟩
  have hS := Lib.hid hS0
  generalize w.alloc (.cells C 24) = W1 at *
  clear hS0
  go_loopw [7, 14] (fun o ii wr => ∃ (i : Nat) (B : Option Addr) (cp : Nat), i ≤ t.length ∧ ii = .int .i64 i ∧ o = .slice B i cp ∧ BackAt W1 wr (.slice B i cp) ((List.range i).map (stM cl t en))) (fun _ i _ => t.length - (intOf i).toNat)
  case atStart => exact ⟨0, none, 0, by omega, rfl, rfl, hI0⟩
  case round =>
    clear hI0
    obtain ⟨i, B, cp, hi, rfl, rfl, hR⟩ := hrel
    obtain ⟨wo, rfl⟩ : ∃ wo : World, wo = wr := ⟨_, rfl⟩
    have hRs := hR.b.size
    have hcC := Lib.hid (hC0.out.below hR.b (by have := hS.out; omega))
    have hwB := Lib.hid (below_then hB0.out hB0.out.size hR.b)
    have hRH := Lib.hid hR
    clear hR
    by_cases hlt : i < t.length
    · have hdb : decide ((i : Int) < (t.length : Int)) = true := decide_eq_true (by omega)
      have hPl : Hid ((toM cl t i).length = 256) := toM_len cl t i
      have hPg := Lib.hid (toM_get cl t i)
      have hst : Hid (stM cl t en i = ⟨en.getD i 0, rarcs (toM cl t i) 256⟩) := rfl
      obtain ⟨ex, hex⟩ : ∃ ex, en.getD i 0 = ex := ⟨_, rfl⟩
      rw [hex] at hst
      have hexH := Lib.hid hex
      clear hex
      generalize toM cl t i = PP at *
      go_wp2_with (refine wpList_alloc_arr rfl 51 rfl zerosI zero51 ?_)
      go_loopw [17] (fun bb wr => ∃ b : Nat, b ≤ 256 ∧ bb = .int .i64 b ∧ Hid (Blk wr wo.heap.size 51 (arI .i64 (outL PP b))) ∧ Hid (Below wo.heap.size wo wr)) (fun bb _ => 256 - (intOf bb).toNat)
      case atStart =>
        refine ⟨0, by omega, rfl, ?_, Lib.hid (below_alloc (Below.refl _ _) _)⟩
        rw [outL_zero]; exact Blk.new wo 51 zerosI
      case round =>
        obtain ⟨b, hb, rfl, hB, hbo⟩ := hrel
        by_cases hlb : b < 256
        · have hdb2 : decide ((b : Int) < 256) = true := decide_eq_true (by omega)
          have hw2 : IntKind.u8.wrap (b : Int) = (b : Int) := by rw [IntKind.wrap_u8]; omega
          have hCb := Lib.hid (hcC.out.below hbo.out hcC.out.lt)
          have hbw := Lib.hid (below_then hwB.out hwB.out.size hbo.out)
          have hcal := Lib.hid (hent.out wr hbw.out i b hlb)
          have hg := Lib.hid (hPg.out b hlb)
          rw [gM] at hg
          have hsetp := Lib.hid (outL_step PP hPl.out b hlb)
          have hlO := Lib.hid (outL_len' PP b hb hPl.out)
          have hwlt := hB.out.lt
          generalize entryM cl t (i : Int) b = e at *
          generalize hold : outL PP b = OL at *
          by_cases hge : (t.length : Int) ≤ e
          · have hd3 : decide ((t.length : Int) ≤ e) = true := decide_eq_true hge
            rw [if_pos hge] at hg
            go_wp2_with (first
              | (refine wpList_load_row rfl 24 (.tmp 3) rfl w.heap.size rfl 24 _ (0, 0) _ hCb.out Try.underlying24 rfl hsz ?_)
              | (go_at_call 28; refine hcal.out.mono ?_; rintro e' w1 ⟨rfl, hb1⟩; have hB1 := Lib.hid (hB.out.below hb1 hwlt); have hbo1 := Lib.hid (below_then hbo.out hbo.out.size hb1); have hc1 := hB1.out.cellI b (by rw [hlO.out]; exact hlb); have hf1 := hB1.out.frozen b; have hB2 := Lib.hid (hB1.out.setI b e); have hc2 := setI_cell hB1.out b e (by rw [hlO.out]; exact hlb); have hf2 := hB2.out.frozen b))
            go_roundw
            case rel =>
              refine ⟨b + 1, by omega, by go_num, ?_, ?_⟩
              · have h4 := hB2.out.setI b (-1)
                rw [List.set_set, ← hg.out, hsetp.out] at h4
                rw [hg.out] at h4
                exact h4
              · exact (hbo1.out.setCell (by simp) _).setCell (by simp) _
            case measure => simp [intOf]; omega
          · have hd3 : decide ((t.length : Int) ≤ e) = false := decide_eq_false hge
            rw [if_neg hge] at hg
            go_wp2_with (first
              | (refine wpList_load_row rfl 24 (.tmp 3) rfl w.heap.size rfl 24 _ (0, 0) _ hCb.out Try.underlying24 rfl hsz ?_)
              | (go_at_call 28; refine hcal.out.mono ?_; rintro e' w1 ⟨rfl, hb1⟩; have hB1 := Lib.hid (hB.out.below hb1 hwlt); have hbo1 := Lib.hid (below_then hbo.out hbo.out.size hb1); have hc1 := hB1.out.cellI b (by rw [hlO.out]; exact hlb); have hf1 := hB1.out.frozen b; have hB2 := Lib.hid (hB1.out.setI b e); have hc2 := setI_cell hB1.out b e (by rw [hlO.out]; exact hlb); have hf2 := hB2.out.frozen b))
            go_roundw
            case rel =>
              refine ⟨b + 1, by omega, by go_num, ?_, ?_⟩
              · have h4 := hB2.out
                rw [← hg.out, hsetp.out] at h4
                rw [hg.out] at h4
                exact h4
              · exact hbo1.out.setCell (by simp) _
            case measure => simp [intOf]; omega
        · obtain rfl : b = 256 := by omega
          rw [outL_full PP hPl.out] at hB
          have hwlt := hB.out.lt
          have hCb := Lib.hid (hcC.out.below hbo.out hcC.out.lt)
          have hbw := Lib.hid (below_then hwB.out hwB.out.size hbo.out)
          have hsz2 : (Try.prog.info? 51).map (·.size) = some (arI .i64 PP).size := by rw [arI_size, hPl.out]; exact size51
          have harc := Lib.hid (arcs_c PP hPl.out wr)
          have hRo := Lib.hid (Kd.R_below hRH.out.o hbo.out)
          generalize hA2 : arI .i64 PP = D at *
          have hii : Hid (((List.range i).map (stM cl t en)).length = i) := by unfold Hid; simp
          have hlo : Hid (W1.heap.size ≤ wr.heap.size) := Nat.le_trans hRs hbo.out.size
          by_cases hie : i < en.length
          · have hd4 : decide ((i : Int) < (en.length : Int)) = true := decide_eq_true (by omega)
            obtain ⟨ae, hae, hce⟩ := hE.out.at_ i hie
            subst hae
            clear hce
            go_wp2_with (first
              | (refine wpList_load_row rfl 51 (.tmp 9) rfl wo.heap.size rfl 51 _ (0, 0) _ hB.out Try.underlying51 rfl hsz2 ?_)
              | (go_at_call 29; refine harc.out.mono ?_; rintro e' w2 ⟨v0, rfl, hr2, hb2⟩; obtain ⟨A2, c2, hv0, _, _⟩ := Kd.R_reads hr2; subst hv0; generalize hLn : (rarcs PP 256).length = ln at *; have hE3 := Lib.hid ((hE.out.below (below_then hbw.out hbw.out.size hb2)).below (below_alloc (Below.refl w2.heap.size w2) (.cells #[.int .u64 0, .slice A2 ln c2] 48))); have hce3 := hE3.out.at2 i hie; rw [hexH.out] at hce3; have hB3 := Blk.new w2 48 #[.int .u64 0, .slice A2 ln c2]; have hc3 := hB3.cell 0; have hf3 := hB3.frozen 0; have hb4 := Lib.hid (below_alloc (Below.refl w2.heap.size w2) (.cells #[.int .u64 ex, .slice A2 ln c2] 48)); have hB4 := Blk.new w2 48 #[.int .u64 ex, .slice A2 ln c2]; have hrn := Lib.hid (Kd.R_below (Kd.R_lower (Kd.R_newR hr2 hRo.out) hlo.out) hb4.out); have hoo := Lib.hid (Kd.R_below (Kd.R_below hRo.out hb2) (Below.weaken_ hb2 hb4.out)); have hbb := Lib.hid (below_then (below_then (below_then hRH.out.b hRH.out.b.size hbo.out) (by have h1 := hbo.out.size; have h2 := hRH.out.b.size; omega) hb2) (by have h0 := hb2.size; have h1 := hbo.out.size; have h2 := hRH.out.b.size; omega) hb4.out); have hss := hbb.out.size; clear hr2 hb2)
              | (refine wpList_alloc_arr rfl 48 rfl #[.int .u64 0, .slice none 0 0] zero48 ?_)
              | (refine wpList_store_row rfl 48 (.tmp 11) (.tmp 39) rfl w2.heap.size _ rfl rfl 48 _ (Blk.new w2 48 _) size48 rfl rfl ?_)
              | (refine wpList_load_row rfl 48 (.tmp 11) rfl w2.heap.size rfl 48 _ (0, 0) _ hB4 Try.underlying48 rfl size48 ?_)
              | ((with_reducible refine gate_builtin (b := .append) (xs := #[.tmp 49, .tmp 51]) rfl ?_); at_builtin; go_loud (refine Kd.R_append k48 (w0 := W1) W1.heap.size rfl (.tmp 49) (.tmp 51) 23 48 _ 32 rfl Try.underlying23 info48' rfl (by decide) (by omega) (.slice B i cp) ((List.range i).map (stM cl t en)) (stM cl t en i) [.int .u64 ex, .slice A2 ln c2] (fun _ => True) (fun q => True ∧ some q ≠ (Value.slice B i cp).ownBlock) rfl ((show _ = Value.slice (some ⟨w2.heap.size + 1, 0, none⟩) 1 1 from rfl).trans (by simp)) ?aP ?aK ?aF ?aO ?aB ?aS ?aL ?_; (case aP => rw [hst.out]; exact k48_mkM _ _ _ ⟨ex, rarcs PP 256⟩ hrn.out); (case aK => exact (fun q hq => hq)); (case aF => exact (fun _ _ => trivial)); (case aO => exact hoo.out); (case aB => exact hbb.out); (case aS => exact hss); (case aL => rw [hii.out]; omega); intro v1 w4 ho hb5 hg hat; obtain ⟨B1, cp1, hv1, _⟩ := Kd.R_reads ho; subst hv1; have hoH := Lib.hid ho; have hb5H := Lib.hid hb5; clear ho hg hat hb5)))
            go_roundw
            case rel =>
              have hmap : (List.range (i + 1)).map (stM cl t en) = (List.range i).map (stM cl t en) ++ [stM cl t en i] := by rw [List.range_succ, List.map_append]; rfl
              refine ⟨i + 1, B1, cp1, by omega, by go_num, by simp, ?_, hb5H.out⟩
              have h := hoH.out
              rw [hmap]; simpa using h
            case measure => simp [intOf]; omega
          · have hd4 : decide ((i : Int) < (en.length : Int)) = false := decide_eq_false (by omega)
            have hz : ex = 0 := by rw [← hexH.out]; rw [List.getD_eq_getElem?_getD, List.getElem?_eq_none (by omega)]; rfl
            go_wp2_with (first
              | (refine wpList_load_row rfl 51 (.tmp 9) rfl wo.heap.size rfl 51 _ (0, 0) _ hB.out Try.underlying51 rfl hsz2 ?_)
              | (go_at_call 29; refine harc.out.mono ?_; rintro e' w2 ⟨v0, rfl, hr2, hb2⟩; obtain ⟨A2, c2, hv0, _, _⟩ := Kd.R_reads hr2; subst hv0; generalize hLn : (rarcs PP 256).length = ln at *; have hE3 := Lib.hid ((hE.out.below (below_then hbw.out hbw.out.size hb2)).below (below_alloc (Below.refl w2.heap.size w2) (.cells #[.int .u64 0, .slice A2 ln c2] 48))); have hB4 := Blk.new w2 48 #[.int .u64 0, .slice A2 ln c2]; have hb4 := Lib.hid (below_alloc (Below.refl w2.heap.size w2) (.cells #[.int .u64 0, .slice A2 ln c2] 48)); have hrn := Lib.hid (Kd.R_below (Kd.R_lower (Kd.R_newR hr2 hRo.out) hlo.out) hb4.out); have hoo := Lib.hid (Kd.R_below (Kd.R_below hRo.out hb2) (Below.weaken_ hb2 hb4.out)); have hbb := Lib.hid (below_then (below_then (below_then hRH.out.b hRH.out.b.size hbo.out) (by have h1 := hbo.out.size; have h2 := hRH.out.b.size; omega) hb2) (by have h0 := hb2.size; have h1 := hbo.out.size; have h2 := hRH.out.b.size; omega) hb4.out); have hss := hbb.out.size; clear hr2 hb2)
              | (refine wpList_alloc_arr rfl 48 rfl #[.int .u64 0, .slice none 0 0] zero48 ?_)
              | (refine wpList_store_row rfl 48 (.tmp 11) (.tmp 39) rfl w2.heap.size _ rfl rfl 48 _ (Blk.new w2 48 _) size48 rfl rfl ?_)
              | (refine wpList_load_row rfl 48 (.tmp 11) rfl w2.heap.size rfl 48 _ (0, 0) _ hB4 Try.underlying48 rfl size48 ?_)
              | ((with_reducible refine gate_builtin (b := .append) (xs := #[.tmp 49, .tmp 51]) rfl ?_); at_builtin; go_loud (refine Kd.R_append k48 (w0 := W1) W1.heap.size rfl (.tmp 49) (.tmp 51) 23 48 _ 32 rfl Try.underlying23 info48' rfl (by decide) (by omega) (.slice B i cp) ((List.range i).map (stM cl t en)) (stM cl t en i) [.int .u64 0, .slice A2 ln c2] (fun _ => True) (fun q => True ∧ some q ≠ (Value.slice B i cp).ownBlock) rfl ((show _ = Value.slice (some ⟨w2.heap.size + 1, 0, none⟩) 1 1 from rfl).trans (by simp)) ?aP ?aK ?aF ?aO ?aB ?aS ?aL ?_; (case aP => rw [hst.out]; exact k48_mkM_z hz hrn.out); (case aK => exact (fun q hq => hq)); (case aF => exact (fun _ _ => trivial)); (case aO => exact hoo.out); (case aB => exact hbb.out); (case aS => exact hss); (case aL => rw [hii.out]; omega); intro v1 w4 ho hb5 hg hat; obtain ⟨B1, cp1, hv1, _⟩ := Kd.R_reads ho; subst hv1; have hoH := Lib.hid ho; have hb5H := Lib.hid hb5; clear ho hg hat hb5)))
            go_roundw
            case rel =>
              have hmap : (List.range (i + 1)).map (stM cl t en) = (List.range i).map (stM cl t en) ++ [stM cl t en i] := by rw [List.range_succ, List.map_append]; rfl
              refine ⟨i + 1, B1, cp1, by omega, by go_num, by simp, ?_, hb5H.out⟩
              have h := hoH.out
              rw [hmap]; simpa using h
            case measure => simp [intOf]; omega
    · obtain rfl : i = t.length := by omega
      go_wp2
      go_ret
      obtain ⟨A2, c2, he1, hc1, hC1⟩ := Kd.R_reads hRH.out.o
      injection he1 with e1 e2 e3
      subst e1 e3
      refine ⟨_, rfl, ⟨B, cp, ?_, hc1, hC1⟩, hwB.out⟩
      show Value.slice B t.length cp = Value.slice B (backM cl t en).length cp
      rw [show (backM cl t en).length = t.length from by simp [backM]]
end Go.Proofs.Ytbhdpamepmkaiaa
