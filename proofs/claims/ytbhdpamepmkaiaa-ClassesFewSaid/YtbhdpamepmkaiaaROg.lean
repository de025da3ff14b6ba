/- homographref10.Of: its walk. Own text. -/
import Derived.Test.YtbhdpamepmkaiaaROf
namespace Go.Proofs.Ytbhdpamepmkaiaa
open Go.RowKit Go.Proofs.Ytbhdpamepmkaiaa.P Go.Proofs.Ytbhdpamepmkaiaa.Plain Go.Proofs.YtbhdpamepmkaiaaW.PrintWords Go.Proofs.YtbhdpamepmkaiaaW.PrintLast Go.Proofs.YtbhdpamepmkaiaaW.PrintMore
set_option linter.unusedVariables false

theorem alike_sig (m : List S48) (a b : Nat) : alikeM m (a : Int) (b : Int) = decide (sig m m.length a = sig m m.length b) := by
  rw [Bool.eq_iff_iff]
  simp only [alikeM, List.all_eq_true, List.mem_range, beq_iff_eq, sig]
  constructor
  · intro h; exact decide_eq_true (List.map_congr_left (fun i hi => h i (List.mem_range.1 hi)))
  · intro h i hi
    replace h := of_decide_eq_true h
    have := congrArg (fun l => l.getD i 0) h
    simpa [List.getD_eq_getElem?_getD, hi] using this
def cls (m : List S48) : List Int := (List.range 256).map fun b : Nat => (numK (sig m m.length) b : Int)
def lowN (m : List S48) (b : Nat) : List Int := (firsts (sig m m.length) b).map fun x : Nat => (x : Int)
theorem cls_len (m : List S48) : (cls m).length = 256 := by rw [cls, List.length_map, List.length_range]
theorem cls_at (m : List S48) (b : Nat) (h : b < 256) : (cls m).getD b 0 = (numK (sig m m.length) b : Int) := by
  rw [cls, List.getD_eq_getElem?_getD, List.getElem?_map, List.getElem?_range h]; rfl
theorem partL_cls (m : List S48) : partL m m.length = cls m := by
  apply List.ext_getElem
  · rw [partL_len, cls_len]
  · intro i h1 h2
    have hi : i < 256 := by rw [cls_len] at h2; exact h2
    have h := (partL_num m m.length).1 i hi
    rw [← cls_at m i hi] at h
    simpa [List.getD_eq_getElem?_getD, h1, h2] using h
theorem cls_bd (m : List S48) : ∀ x ∈ cls m, 0 ≤ x ∧ x ≤ 255 := by
  intro x hx
  obtain ⟨i, hi, rfl⟩ := List.getElem_of_mem hx
  have hi' : i < 256 := by rw [cls_len] at hi; exact hi
  have h := partL_bd m m.length i hi'
  rw [partL_cls] at h
  simpa [List.getD_eq_getElem?_getD, hi] using h
/-- The first place in the row from which b's key is. -/
theorem num_step (m : List S48) (b k : Nat) (hk : k < (firsts (sig m m.length) b).length) (hK : k ≤ numN (sig m m.length) b b) :
    alikeM m ((lowN m b).getD k 0) (b : Int) = decide (k = numN (sig m m.length) b b) := by
  have e : (lowN m b).getD k 0 = (((firsts (sig m m.length) b)[k] : Nat) : Int) := by simp [lowN, List.getD_eq_getElem?_getD, hk]
  rw [e, alike_sig]
  rcases Nat.lt_or_ge k (numN (sig m m.length) b b) with h | h
  · have := List.not_of_lt_findIdx (xs := firsts (sig m m.length) b) (p := fun x => decide (sig m m.length x = sig m m.length b)) h
    rw [decide_eq_false (by omega : ¬ k = _)]; simpa using this
  · have hkk : k = numN (sig m m.length) b b := by omega
    have := List.findIdx_getElem (xs := firsts (sig m m.length) b) (p := fun x => decide (sig m m.length x = sig m m.length b)) (w := by rw [hkk] at hk; exact hk)
    rw [decide_eq_true hkk]
    have e2 : (firsts (sig m m.length) b)[k] = (firsts (sig m m.length) b)[List.findIdx (fun x => decide (sig m m.length x = sig m m.length b)) (firsts (sig m m.length) b)]'(by rw [hkk] at hk; exact hk) := by
      congr 1
    rw [e2]; exact this
theorem low_old (m : List S48) (b : Nat) (h : numN (sig m m.length) b b < (firsts (sig m m.length) b).length) : lowN m (b + 1) = lowN m b ∧ numK (sig m m.length) b = numN (sig m m.length) b b := by
  have hany : (firsts (sig m m.length) b).any (fun x => decide (sig m m.length x = sig m m.length b)) = true := by
    have := List.findIdx_getElem (xs := firsts (sig m m.length) b) (p := fun x => decide (sig m m.length x = sig m m.length b)) (w := h)
    exact List.any_eq_true.2 ⟨_, List.getElem_mem h, this⟩
  refine ⟨by rw [lowN, firsts, if_pos hany]; rfl, ?_⟩
  unfold numK; unfold numN; rw [firsts, if_pos hany]
theorem low_new (m : List S48) (b : Nat) (h : ¬ numN (sig m m.length) b b < (firsts (sig m m.length) b).length) : lowN m (b + 1) = lowN m b ++ [(b : Int)] ∧ numK (sig m m.length) b = (firsts (sig m m.length) b).length := by
  have hany : ¬ (firsts (sig m m.length) b).any (fun x => decide (sig m m.length x = sig m m.length b)) = true := by
    intro hx
    obtain ⟨x, hx, he⟩ := List.any_eq_true.1 hx
    exact h (List.findIdx_lt_length_of_exists ⟨x, hx, he⟩)
  refine ⟨by rw [lowN, firsts, if_neg hany, List.map_append]; rfl, ?_⟩
  have h2 : List.findIdx (fun x => decide (sig m m.length x = sig m m.length b)) (firsts (sig m m.length) b) = (firsts (sig m m.length) b).length := by
    have := List.findIdx_le_length (xs := firsts (sig m m.length) b) (p := fun x => decide (sig m m.length x = sig m m.length b))
    unfold numN at h; omega
  unfold numK numN
  rw [firsts, if_neg hany, List.findIdx_append, h2, if_neg (by omega)]; simp
theorem numN_le (m : List S48) (b : Nat) : numN (sig m m.length) b b ≤ (firsts (sig m m.length) b).length := List.findIdx_le_length

structure RofAt (w wr : World) (v : Value) (low : List Int) (C : List Int) : Prop where
  r : Blk wr w.heap.size 24 zerosB
  o : Blk wr (w.heap.size + 1) 24 (arI .u8 C)
  l : (Kd.int .u8).R 5 wr w.heap.size (fun _ => True) v low
  b : Below w.heap.size w wr
theorem RofAt.below {w wr w1 : World} {v : Value} {low C : List Int} (h : RofAt w wr v low C) (hb : Below wr.heap.size wr w1) : RofAt w w1 v low C :=
  ⟨h.r.below hb h.r.lt, h.o.below hb h.o.lt, Kd.R_below h.l hb, below_then h.b h.b.size hb⟩
theorem outL_len (P : List Int) (hP : P.length = 256) (b : Nat) (hb : b < 256) : (outL P b).length = 256 := by
  simp only [outL, List.length_append, List.length_take, List.length_replicate, hP]; omega
theorem RofAt.next {w wr : World} {v : Value} {low : List Int} {m : List S48} {b k : Nat} (h : RofAt w wr v low (outL (cls m) b)) (hb : b < 256) (hk : numK (sig m m.length) b = k) :
    RofAt w (wr.setCell ⟨w.heap.size + 1, b, none⟩ (.int .u8 (k : Int))) v low (outL (cls m) (b + 1)) := by
  refine ⟨h.r.far (by simp) _, ?_, Kd.R_set h.l h.o (by intro q hq; simp [Kd.int, Kd.scalar] at hq; omega) b _, h.b.setCell (by simp) _⟩
  have h2 := h.o.setI b (k : Int)
  have e := outL_step (cls m) (cls_len m) b hb
  rw [cls_at m b hb, hk] at e
  rw [e] at h2; exact h2

set_option maxRecDepth 20000 in
set_option maxHeartbeats 1000000 in
theorem rof_c {w : World} {v : Value} {m : List S48} (h : IsM w v m) (hm : m.length ≤ 4096) :
    Calls Try.prog 9 #[v] w fun e w' => e = .returned (.tuple #[.agg (arI .u8 (cls m)), .int .i64 ((firsts (sig m m.length) 256).length : Int)]) ∧ Below w.heap.size w w' := by
  have hH := Lib.hid h
  obtain ⟨A, c, rfl, h2, h3⟩ := h
  clear h2 h3
  go_enter Try.func9, Try.ntmps9
  go_wp2_with (refine wpList_alloc_arr rfl 24 rfl zerosB zero24 ?_)
  go_loopw [5, 6] (fun s5 ii wr => ∃ (b : Nat) (B : Option Addr) (cp : Nat), b ≤ 256 ∧ ii = .int .i64 b ∧ s5 = .slice B (lowN m b).length cp ∧ RofAt w wr (.slice B (lowN m b).length cp) (lowN m b) (outL (cls m) b)) (fun _ i _ => 256 - (intOf i).toNat)
  case atStart =>
    refine ⟨0, none, 0, by omega, rfl, by simp [lowN, firsts], ?_, ?_, ?_, ?_⟩
    · exact (Blk.new w 24 zerosB).alloc _
    · have h := Blk.new (w.alloc (.cells zerosB 24)) 24 zerosB
      rw [World.size_alloc] at h; exact h
    · show (Kd.int .u8).R 5 _ _ _ (.slice none (lowN m 0).length 0) (lowN m 0)
      exact Kd.R_nil _ _ _ _ _
    · exact below_alloc (below_alloc (Below.refl _ _) _) _
  case round =>
    obtain ⟨b, B, cp, hb, rfl, rfl, hR⟩ := hrel
    by_cases hlt : b < 256
    · obtain ⟨wo, rfl⟩ : ∃ wo : World, wo = wr := ⟨_, rfl⟩
      have hll := firsts_len (sig m m.length) b
      have hle := numN_le m b
      have hlw : (lowN m b).length = (firsts (sig m m.length) b).length := by simp [lowN]
      have hst := Lib.hid (num_step m b)
      rw [← hlw] at hll hle hst
      generalize hN : numN (sig m m.length) b b = N at *
      generalize hLN : (lowN m b).length = LN at *
      have hNH := Lib.hid hN
      have hLH := Lib.hid hLN
      have hwH := Lib.hid hlw
      clear hN hLN hlw
      have hRH := Lib.hid hR
      clear hR
      have hdb : decide ((b : Int) < 256) = true := decide_eq_true (by omega)
      go_wp2_with fail
      go_loopw [7] (fun kk wr => ∃ k : Nat, k ≤ N ∧ kk = .int .i64 k ∧ RofAt w wr (.slice B LN cp) (lowN m b) (outL (cls m) b)) (fun kk _ => 257 - (intOf kk).toNat)
      case atStart => exact ⟨0, by omega, rfl, hRH.out⟩
      case round =>
        obtain ⟨k, hk, rfl, hR⟩ := hrel
        by_cases hkl : k < LN
        · have hd : decide ((k : Int) < (LN : Int)) = true := by simpa using hkl
          obtain ⟨g, cap, he, hgb, hgl, _⟩ := Kd.R_form hR.l (by rw [hLH.out]; omega)
          injection he with he1 he2 he3
          have hcl : wr.cell? ⟨g, k, none⟩ = some (.int .u8 ((lowN m b).getD k 0)) := by
            have hl2 := hR.l
            rw [he1, he2] at hl2
            exact (Kd.R_cell (0 : Int) hl2 (k : Int) (by omega) (by rw [hLH.out]; omega)).1
          clear he2 he3 hgb hgl
          subst he1
          have ha := hst.out k hkl hk
          have hxx : Hid (alikeM m ((lowN m b).getD k 0) (b : Int) = decide (k = N)) := ha
          clear ha
          generalize (lowN m b).getD k 0 = x at hcl hxx
          have hIM := Lib.hid (hH.out.below hR.b)
          by_cases hkN : k = N
          · subst hkN
            have hal : alikeM m x (b : Int) = true := by rw [hxx.out]; simp
            clear hxx
            have hko := low_old m b (by rw [hNH.out, ← hwH.out]; exact hkl)
            have hkoH := Lib.hid hko
            clear hko
            have hlO := outL_len (cls m) (cls_len m) b hlt
            have hne : ((k : Int) == (LN : Int)) = false := by simp; omega
            go_wp2_with (go_at_call 26; refine (alike_c hIM.out _ _).mono ?_; rintro e w1 ⟨rfl, hb1⟩; have hR1 := hR.below hb1; have hc1 := hR1.o.cellI b (by omega); have hf1 := hR1.o.frozen b)
            go_roundw
            case rel =>
              exact ⟨b + 1, some ⟨g, 0, none⟩, cp, by omega, by go_num, by rw [hkoH.out.1, hLH.out], RofAt.next (by have h := hR1; rw [← hLH.out] at h; rw [hkoH.out.1]; exact h) hlt (by rw [hkoH.out.2, hNH.out])⟩
            case measure => simp [intOf]; omega
          · have hal : alikeM m x (b : Int) = false := by rw [hxx.out]; simpa using hkN
            clear hxx
            go_wp2_with (go_at_call 26; refine (alike_c hIM.out _ _).mono ?_; rintro e w1 ⟨rfl, hb1⟩)
            go_roundw
            case rel => exact ⟨k + 1, by omega, by go_num, hR.below hb1⟩
            case measure => simp [intOf]; omega
        · obtain rfl : k = LN := by omega
          have hko := low_new m b (by rw [hNH.out, ← hwH.out]; omega)
          have hkoH := Lib.hid hko
          clear hko
          have hlO := outL_len (cls m) (cls_len m) b hlt
          have hd : decide ((k : Int) < (k : Int)) = false := by simp
          have hkeq : ((k : Int) == (k : Int)) = true := by simp
          go_wp2_with ((with_reducible refine gate_builtin (b := .append) (xs := #[.tmp 33, .tmp 36]) rfl ?_); at_builtin; refine Kd.R_append (Kd.int .u8) (w0 := w) w.heap.size rfl (.tmp 33) (.tmp 36) 28 5 (.int .u8 0) 1 rfl Try.underlying28 info5 rfl (by decide) (by omega) (.slice B k cp) (lowN m b) (b : Int) [.int .u8 (b : Int)] (fun _ => True) (fun _ => False) rfl rfl ?aP (fun _ hk => hk.elim) ?aF ?aO ?aB ?aS ?aL ?_; (case aP => exact rfl); (case aF => exact (fun _ _ => trivial)); (case aO => exact hR.l); (case aB => exact hR.b); (case aS => exact hR.b.size); (case aL => rw [hLH.out]; omega); intro v1 w1 ho hb1 hg hat; have hR1 : RofAt w w1 v1 (lowN m b ++ [(b : Int)]) (outL (cls m) b) := ⟨(hg.block _ hR.r.lt (Kd.R_ne hR.l hR.r (by decide))).trans hR.r, (hg.block _ hR.o.lt (Kd.R_ne hR.l hR.o (by decide))).trans hR.o, ho, hb1⟩; obtain ⟨B1, cp1, hv1, _⟩ := Kd.R_reads ho; subst hv1; have hc1 := hR1.o.cellI b (by omega); have hf1 := hR1.o.frozen b; clear ho hg hat hb1)
          go_roundw
          case rel =>
            exact ⟨b + 1, B1, cp1, by omega, by go_num, by rw [hkoH.out.1]; simp, RofAt.next (by rw [hkoH.out.1]; simpa using hR1) hlt (by rw [hkoH.out.2, ← hwH.out])⟩
          case measure => simp [intOf]; omega
    · obtain rfl : b = 256 := by omega
      have e : Hid (outL (cls m) 256 = cls m) := by unfold Hid outL; rw [List.take_of_length_le (by rw [cls_len]; omega)]; simp
      have hlw : Hid ((lowN m 256).length = (firsts (sig m m.length) 256).length) := by unfold Hid; simp [lowN]
      have hO2 := hR.o
      rw [e.out] at hO2
      have hO3 := Lib.hid hO2
      have hRH := Lib.hid hR
      clear hO2 hR
      generalize hLN : (lowN m 256).length = LN at *
      go_wp2_with (first
        | (refine wpList_load_row rfl 24 (.tmp 4) rfl (w.heap.size + 1) rfl 24 _ (0, 0) _ hO3.out Try.underlying24 rfl ?_ ?_; (rw [arI_size, cls_len]; exact size24'))
        | (refine wpList_store_row rfl 24 (.tmp 2) (.tmp 42) rfl w.heap.size _ rfl rfl 24 zerosB hRH.out.r ?_ ?_ (arI_one _ _) ?_; (rw [arI_size, cls_len]; exact size24'); (rw [arI_size, cls_len]; rfl)))
      have hsz2 : (Try.prog.info? 24).map (·.size) = some (arI .u8 (cls m)).size := by rw [arI_size, cls_len]; exact size24'
      refine bodyPost_ret (results_row2 rfl _ _ w.heap.size 24 (arI .u8 (cls m)) _ rfl (hRH.out.r.setRow_ _) Try.underlying24 rfl hsz2) rfl ⟨by rw [← hlw.out]; rfl, ?_⟩
      exact below_setRow_ hRH.out.b (Nat.le_refl _) _
end Go.Proofs.Ytbhdpamepmkaiaa
