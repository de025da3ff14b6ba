/- homographlaw10.ClassesFew: its walk. Own text. -/
import Derived.Test.YtbhdpamepmkaiaaHold
import Derived.Test.YtbhdpamepmkaiaaRnd
namespace Go.Proofs.Ytbhdpamepmkaiaa
open Go.RowKit Go.Proofs.Ytbhdpamepmkaiaa.P Go.Proofs.Ytbhdpamepmkaiaa.Plain Go.Proofs.YtbhdpamepmkaiaaW.PrintWords Go.Proofs.YtbhdpamepmkaiaaW.PrintLast Go.Proofs.YtbhdpamepmkaiaaW.PrintMore
set_option linter.unusedVariables false
set_option linter.unusedSimpArgs false

/-- What Check says of a machine is one number, wherever it is asked. -/
theorem check_d {w : World} {v : Value} {m : List S48} (h : IsM w v m) : ∃ r : Int, (r = 110 ∨ r = 0 ∧ GoodM m) ∧ ∀ W : World, IsM W v m → Calls Try.prog 20 #[v] W fun e w' => e = .returned (.int .i64 r) ∧ Below W.heap.size W w' := by
  obtain ⟨A, c, rfl, h2, h3⟩ := h
  obtain ⟨L, hL⟩ := short_of h3
  obtain ⟨k, r, hf, hr⟩ := check_f m L hL
  refine ⟨r, hr, fun W hW => ?_⟩
  obtain ⟨A', c', e, h2', h3'⟩ := hW
  injection e with e1 e2 e3
  subst e1 e3
  exact (homographref07_Check.calls k A c m r W h3' h2' hf).mono fun e w' ⟨h1, h2⟩ => ⟨h1, h2.below⟩
theorem conv_c {w : World} {A : Option Addr} {n c : Nat} {xs : List Int} (h : (Kd.int .u8).C w A n xs) : (convert 28 9 (.slice A n c)).run Try.prog w = .ok (.string (strOfNums xs)) w :=
  Kd.C_string (P := Try.prog) (src := 28) (dst := 9) (e := 5) Try.underlying28 Try.underlying5 Try.underlying9 h
/-- The arcs of the first states. -/
def arcsK (m : List S48) (i : Nat) : Nat := arcsN (m.take i)
theorem arcsK_zero (m : List S48) : arcsK m 0 = 0 := by simp [arcsK, arcsN]
theorem arcsK_full (m : List S48) : arcsK m m.length = arcsN m := by simp [arcsK]
theorem arcsK_succ (m : List S48) (i : Nat) (h : i < m.length) : arcsK m (i + 1) = arcsK m i + m[i].f1.length := by
  unfold arcsK arcsN
  rw [List.take_succ_eq_append_getElem h, List.map_append, List.sum_append]; simp
theorem arcsK_le (m : List S48) (hl : ∀ s ∈ m, s.f1.length ≤ 256) (i : Nat) : i ≤ m.length → arcsK m i ≤ 256 * i := by
  induction i with
  | zero => intro _; rw [arcsK_zero]; omega
  | succ i ih =>
    intro h
    rw [arcsK_succ m i (by omega)]
    have := ih (by omega)
    have := hl _ (List.getElem_mem (by omega : i < m.length))
    omega
/-- The lowest byte of the class of a byte. -/
def lowB (m : List S48) (c : UInt8) : Int := (lowsL (cls m)).getD ((cls m).getD c.toNat 0).toNat 0
theorem lowB_bd (m : List S48) (c : UInt8) : 0 ≤ lowB m c ∧ lowB m c ≤ 255 := by
  unfold lowB
  rw [cls_at m _ c.toNat_lt, Int.toNat_natCast]
  have hk := Fm_numlt m c.toNat c.toNat_lt
  rw [lows_at m _ hk]
  have := Fm_lt m _ hk
  omega
theorem low_step (m : List S48) (s T : ByteArray) (i : Nat) (hi : i < s.size) (h : T.data.toList.map (fun c => (c.toNat : Int)) = (s.data.toList.take i).map (lowB m)) :
    (T ++ strOfNums [lowB m s[i]]).data.toList.map (fun c => (c.toNat : Int)) = (s.data.toList.take (i + 1)).map (lowB m) := by
  have hb := lowB_bd m s[i]
  have e : s.data.toList.take (i + 1) = s.data.toList.take i ++ [s[i]] := by
    rw [List.take_succ_eq_append_getElem (by simpa using hi)]; rfl
  rw [e, List.map_append, ← h]
  have e2 : (T ++ strOfNums [lowB m s[i]]).data.toList = T.data.toList ++ [UInt8.ofNat (lowB m s[i]).toNat] := by
    simp [strOfNums]
  have e3 : ∀ x : Int, 0 ≤ x → x ≤ 255 → ((UInt8.ofNat x.toNat).toNat : Int) = x := fun x h0 h1 => by
    rw [UInt8.toNat_ofNat']; omega
  rw [e2, List.map_append, List.map_cons, List.map_nil, List.map_cons, List.map_nil, e3 _ hb.1 hb.2]
theorem isM_at {w : World} {A : Option Addr} {n c : Nat} {m : List S48} (h : IsM w (.slice A n c) m) (i : Nat) (hi : i < m.length) :
    ∃ ad A1 c1, A = some ad ∧ w.cell? ⟨(ad.add (i * 2)).block, (ad.add (i * 2)).off + 1, none⟩ = some (.slice A1 m[i].f1.length c1) := by
  obtain ⟨A', c', he, hc, hC⟩ := h
  injection he with e1 e2 e3
  subst e1
  obtain ⟨ad, A1, c1, h1, _, h3, _⟩ := at_T48 hC (i : Int) (by omega) (by omega)
  rw [rd48 m i hi] at h3
  simp only [Int.toNat_natCast] at h3
  exact ⟨ad, A1, c1, h1, h3⟩

set_option maxRecDepth 20000 in
set_option maxHeartbeats 2000000 in
theorem classesFew_c {w : World} {v : Value} {m : List S48} (h : IsM w v m) (hB : ∀ s ∈ m, Byt s.f1) (s : ByteArray) (hs : s.size ≤ 9223372036854775807) :
    Calls Try.prog 6 #[v, .string s] w fun e w' => e = .returned (.bool true) ∧ Below w.heap.size w w' := by
  have hM := Lib.hid h
  have hMl := h.len
  obtain ⟨r, hr, hck0⟩ := check_d h
  have hck := Lib.hid hck0
  clear hck0
  obtain ⟨A, c, rfl, h2, h3⟩ := h
  clear h2 h3
  by_cases hm : m.length ≤ 20
  · have hd1 : decide ((20 : Int) < (m.length : Int)) = false := decide_eq_false (by omega)
    by_cases hs60 : s.size ≤ 60
    · have hd2 : decide ((60 : Int) < (s.size : Int)) = false := decide_eq_false (by omega)
      rcases hr with rfl | ⟨rfl, hg⟩
      · go_enter Try.func6, Try.ntmps6
        go_wp2_with (first
          | (go_at_call 7; refine (awake_c _).mono ?_; rintro e w1 ⟨rfl, hb1⟩; have hM1 := Lib.hid (hM.out.below hb1))
          | (go_at_call 20; refine (hck.out _ hM1.out).mono ?_; rintro e w2 ⟨rfl, hb2⟩))
        go_ret
        exact ⟨rfl, below_then hb1 hb1.size hb2⟩
      · have hof := Lib.hid (fun (W : World) (hW : IsM W (.slice A m.length c) m) => of_c hW (by omega))
        rw [partL_cls, (partL_num m m.length).2, ← Fm_eq] at hof
        have hmr := Lib.hid (fun (W : World) (hW : IsM W (.slice A m.length c) m) => run_c hW s hs)
        have hmt := Lib.hid (fun (T : ByteArray) (hT : T.data.toList.map (fun c => (c.toNat : Int)) = s.data.toList.map (lowB m)) (W : World) (hW : IsM W (.slice A m.length c) m) => by
          have h1 := run_c hW T (by have := congrArg List.length hT; simp at this; omega)
          rw [run_low m s T hT] at h1
          exact h1)
        have hcw := Lib.hid (fun W : World => classes_Lows.calls (cls m) (cls_len m) (cls_bd m) W)
        have hLl := Lib.hid (lowsL_len m)
        have hszL : (Try.prog.info? 24).map (·.size) = some ((cls m).map (Value.int .u8)).length := by rw [List.length_map, cls_len]; exact size24'
        have hsz : (Try.prog.info? 24).map (·.size) = some (arI .u8 (cls m)).size := by rw [arI_size, cls_len]; exact size24'
        have hsz0 : zerosB.size = (arI .u8 (cls m)).size := by rw [arI_size, cls_len]; rfl
        have hone := arI_one .u8 (cls m)
        have hfew := few_arcs m
        have hl256 : ∀ x ∈ m, x.f1.length ≤ 256 := fun x hx => arcs_le m.length _ (hg.2 x hx) (hB x hx)
        have hAf := Lib.hid (arcsK_full m)
        have hAs := Lib.hid (arcsK_succ m)
        have hAl := Lib.hid (arcsK_le m hl256)
        have hA0 := Lib.hid (arcsK_zero m)
        have hAb : arcsN m ≤ 5120 := by have := arcsK_le m hl256 m.length (Nat.le_refl _); rw [arcsK_full] at this; omega
        have hstep := Lib.hid (low_step m s)
        have hbd := Lib.hid (lowB_bd m)
        have hcc := Lib.hid (fun (W : World) (g : Nat) (hW : Blk W g 24 (arI .u8 (cls m))) (b : Nat) (hb : b < 256) => hW.cellI b (by rw [cls_len]; exact hb))
        have hcn := Lib.hid (fun (x : UInt8) => (show ∃ n : Nat, (cls m).getD x.toNat 0 = (n : Int) ∧ n < (lowsL (cls m)).length ∧ (lowsL (cls m)).getD n 0 = lowB m x from
          ⟨numK (sig m m.length) x.toNat, cls_at m _ x.toNat_lt, by rw [lowsL_len]; exact Fm_numlt m _ x.toNat_lt, by unfold lowB; rw [cls_at m _ x.toNat_lt, Int.toNat_natCast]⟩))
        clear hg hl256
        generalize hA : arI .u8 (cls m) = C at *
        generalize hLL : lowsL (cls m) = LC at *
        generalize hF : (Fm m).length = F at *
        generalize hRM : runM m s = RM at *
        clear hA hLL hF hRM
        go_enter Try.func6, Try.ntmps6
        go_wp2_with (first
          | (go_at_call 7; refine (awake_c _).mono ?_; rintro e w1 ⟨rfl, hb1⟩; have hM1 := Lib.hid (hM.out.below hb1); have hB1 := Lib.hid hb1; clear hb1)
          | (go_at_call 20; refine (hck.out _ hM1.out).mono ?_; rintro e w2 ⟨rfl, hb2⟩; have hM2 := Lib.hid (hM1.out.below hb2); have hB2 := Lib.hid (below_then hB1.out hB1.out.size hb2); clear hb2))
        go_loop [6, 7] (fun a i => ∃ k : Nat, k ≤ m.length ∧ i = .int .i64 k ∧ a = .int .i64 ((arcsK m k : Nat) : Int)) (fun _ i => m.length - (intOf i).toNat)
        case atStart => exact ⟨0, by omega, rfl, by rw [hA0.out]; rfl⟩
        case round =>
          obtain ⟨k, hk, rfl, rfl⟩ := hrel
          by_cases hlt : k < m.length
          · have hdk : decide ((k : Int) < (m.length : Int)) = true := decide_eq_true (by omega)
            obtain ⟨ad, A1, c1, rfl, hce⟩ := isM_at hM2.out k hlt
            have hn := Lib.hid (hAs.out k hlt)
            have hle := hAl.out (k + 1) (by omega)
            rw [hn.out] at hle
            generalize m[k].f1.length = x at *
            generalize arcsK m k = y at *
            go_wp2
            go_round
            case rel => exact ⟨k + 1, by omega, by go_num, by rw [hn.out]; go_num⟩
            case measure => simp [intOf]; omega
          · have hdk : decide ((k : Int) < (m.length : Int)) = false := decide_eq_false (by omega)
            obtain rfl : k = m.length := by omega
            rw [hAf.out]
            generalize arcsN m = AN at *
            go_wp2_with (first
              | (go_at_call 8; refine (hof.out _ hM2.out).mono ?_; rintro e w3 ⟨rfl, hb3⟩; have hM3 := Lib.hid (hM2.out.below hb3); have hB3 := Lib.hid (below_then hB2.out hB2.out.size hb3); clear hb3)
              | (refine wpList_alloc_arr rfl 24 rfl zerosB zero24 ?_)
              | (refine wpList_store_row rfl 24 (.tmp 8) (.tmp 47) rfl w3.heap.size _ rfl rfl 24 zerosB (Blk.new w3 24 zerosB) hsz hsz0 hone ?_; have hb4 := below_setRow0' w3 zerosB 24 C; have hM4 := Lib.hid (hM3.out.below hb4); have hB4 := Lib.hid (below_then hB3.out hB3.out.size hb4); have hK4 := Lib.hid ((Blk.new w3 24 zerosB).setRow_ C); clear hb4)
              | (refine wpList_load_row rfl 24 (.tmp 8) rfl w3.heap.size rfl 24 _ (0, 0) _ hK4.out Try.underlying24 rfl hsz ?_)
              | (go_at_call 10; refine (hcw.out _).mono ?_; rintro e w5 ⟨v5, rfl, hl5, hb5⟩; have hM5 := Lib.hid (hM4.out.below hb5); have hB5 := Lib.hid (below_then hB4.out hB4.out.size hb5); have hK5 := Lib.hid (hK4.out.below hb5 hK4.out.lt); clear hb5))
            obtain ⟨A5, c5, hv5, _, _⟩ := Kd.R_reads hl5
            subst hv5
            have hlk := Lib.hid (fun (i : Nat) (hi : i < LC.length) => R_look hl5 i hi)
            clear hl5
            generalize w3.heap.size = g3 at *
            go_loopw [11, 12] (fun tt ii wr => ∃ (T : ByteArray) (i : Nat), i ≤ s.size ∧ ii = .int .i64 i ∧ tt = .string T ∧ Hid (T.data.toList.map (fun c => (c.toNat : Int)) = (s.data.toList.take i).map (lowB m)) ∧ Hid (Below w5.heap.size w5 wr)) (fun _ ii _ => s.size - (intOf ii).toNat)
            case atStart => exact ⟨⟨#[]⟩, 0, by omega, rfl, rfl, Lib.hid (by rw [List.take_zero, List.map_nil, List.map_nil]), Lib.hid (Below.refl _ _)⟩
            case round =>
              obtain ⟨T, i, hi, rfl, rfl, hT, hbi⟩ := hrel
              obtain ⟨wo, rfl⟩ : ∃ wo : World, wo = wr := ⟨_, rfl⟩
              by_cases hli : i < s.size
              · have hdi : decide ((i : Int) < (s.size : Int)) = true := decide_eq_true (by omega)
                have hnx := Lib.hid (hstep.out T i hli hT.out)
                have hbb : (s[i]'hli).toNat < 256 := UInt8.toNat_lt _
                have hc1 := hcc.out _ _ (hK5.out.below hbi.out hK5.out.lt) _ hbb
                obtain ⟨n, hn1, hn2, hn3⟩ := hcn.out s[i]
                rw [hn1] at hc1
                obtain ⟨ad, rfl, hc2⟩ := hlk.out n hn2
                rw [hn3] at hc2
                have hc3 := pw_cell_below hbi.out hc2
                clear hc2 hn1 hn3
                have hxb := hbd.out s[i]
                generalize lowB m s[i] = x at *
                have hcv : (convert 28 9 (.slice (some ⟨wo.heap.size, 0, none⟩) 1 1)).run Try.prog (wo.alloc (.cells #[.int .u8 x] 5)) = .ok (.string (strOfNums [x])) (wo.alloc (.cells #[.int .u8 x] 5)) := by
                  obtain ⟨A6, c6, hv6, _, hC6⟩ := isU_lit wo 5 .u8 [x] (by simp)
                  injection hv6 with e1 e2 e3
                  subst e1
                  exact conv_c (c := 1) hC6
                have hS1 : (strOfNums [x]).size = 1 := by simp [strOfNums, ByteArray.size]
                have hTs : T.size ≤ s.size := by
                  have h1 := congrArg List.length hT.out
                  simp only [List.length_map, List.length_take, Array.length_toList] at h1
                  show T.data.size ≤ s.data.size
                  omega
                go_wp2
                go_roundw
                case rel => exact ⟨_, i + 1, by omega, by go_num, rfl, hnx, Lib.hid (hbi.out.alloc hbi.out.size _)⟩
                case measure => simp [intOf]; omega
              · have hdi : decide ((i : Int) < (s.size : Int)) = false := decide_eq_false (by omega)
                obtain rfl : i = s.size := by omega
                have hT2 : Hid (T.data.toList.map (fun c => (c.toNat : Int)) = s.data.toList.map (lowB m)) := by
                  have h1 := hT.out
                  rw [List.take_of_length_le (by simp)] at h1
                  exact h1
                have hM6 := Lib.hid (hM5.out.below hbi.out)
                have hB6 := Lib.hid (below_then hB5.out hB5.out.size hbi.out)
                have hle : decide ((F : Int) ≤ 2 * (AN : Int) + 1) = true := decide_eq_true (by omega)
                go_wp2_with (first
                  | (go_at_call 22; refine (hmr.out _ hM6.out).mono ?_; rintro e w7 ⟨rfl, hb7⟩; have hM7 := Lib.hid (hM6.out.below hb7); have hB7 := Lib.hid (below_then hB6.out hB6.out.size hb7); clear hb7 hmr)
                  | (go_at_call 22; refine (hmt.out T hT2.out _ hM7.out).mono ?_; rintro e w8 ⟨rfl, hb8⟩))
                go_ret
                exact ⟨rfl, below_then hB7.out hB7.out.size hb8⟩
    · have hd2 : decide ((60 : Int) < (s.size : Int)) = true := decide_eq_true (by omega)
      go_enter Try.func6, Try.ntmps6
      go_wp2_with (go_at_call 7; refine (awake_c _).mono ?_; rintro e w1 ⟨rfl, hb1⟩)
      go_ret
      exact ⟨rfl, hb1⟩
  · have hd1 : decide ((20 : Int) < (m.length : Int)) = true := decide_eq_true (by omega)
    go_enter Try.func6, Try.ntmps6
    go_wp2_with (go_at_call 7; refine (awake_c _).mono ?_; rintro e w1 ⟨rfl, hb1⟩)
    go_ret
    exact ⟨rfl, hb1⟩
end Go.Proofs.Ytbhdpamepmkaiaa
