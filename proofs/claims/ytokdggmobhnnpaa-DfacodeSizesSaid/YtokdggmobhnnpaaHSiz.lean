/- DfacodeSizes: its walk. Own text. -/
import Derived.Test.YtokdggmobhnnpaaAwk
namespace Go.Proofs.Ytokdggmobhnnpaa
open Go.RowKit Go.Proofs.Ytokdggmobhnnpaa.P Go.Proofs.Ytokdggmobhnnpaa.Enc Go.Proofs.YtokdggmobhnnpaaW.PrintWords Go.Proofs.YtokdggmobhnnpaaW.PrintLast Go.Proofs.YtokdggmobhnnpaaW.PrintMore
set_option linter.unusedVariables false
set_option linter.unusedSimpArgs false

/-- The bytes of numbers one behind the other. -/
def fl (l : List Int) : List Int := l.flatMap fun n => num n.toNat
theorem fl_nil : fl [] = [] := rfl
theorem fl_cons (n : Int) (l : List Int) : fl (n :: l) = num n.toNat ++ fl l := by simp [fl]
theorem fl_app (l r : List Int) : fl (l ++ r) = fl l ++ fl r := by simp [fl]
theorem fl_bd (l : List Int) : Bts (fl l) := by
  intro x hx
  obtain ⟨n, _, hx⟩ := List.mem_flatMap.1 hx
  exact num_bd _ x hx
theorem fl_len (l : List Int) (h : ∀ n ∈ l, 0 ≤ n ∧ n < 18446744073709551616) : (fl l).length ≤ 10 * l.length := by
  induction l with
  | nil => simp [fl]
  | cons n l ih =>
    rw [fl_cons, List.length_append, List.length_cons]
    have h1 := ih (fun x hx => h x (by simp [hx]))
    have h2 := h n (by simp)
    have h3 := num_len10 n.toNat (by omega)
    omega
theorem fl_take (l : List Int) (i : Nat) (h : i < l.length) : fl (l.take (i + 1)) = fl (l.take i) ++ num (l[i]).toNat := by
  rw [List.take_succ_eq_append_getElem h, fl_app, fl_cons, fl_nil, List.append_nil]
theorem fl_drop (l : List Int) (i : Nat) (h : i < l.length) : fl (l.drop i) = num (l[i]).toNat ++ fl (l.drop (i + 1)) := by
  rw [List.drop_eq_getElem_cons h, fl_cons]
/-- How often a number is cut by seven bits until nothing is left. -/
def tl (n : Nat) : Nat := if n = 0 then 0 else (num n).length
theorem tl_zero : tl 0 = 0 := rfl
theorem num_tl (n : Nat) : (num n).length = 1 + tl (n / 128) := by
  by_cases h : n < 128
  · rw [num_lt n h, show n / 128 = 0 by omega]; rfl
  · rw [num_ge n h, tl, if_neg (by omega)]; simp; omega
theorem tl_step (n : Nat) (h : 0 < n) : tl n = 1 + tl (n / 128) := by
  rw [← num_tl, tl, if_neg (by omega)]
theorem val_num (n : Int) (h0 : 0 ≤ n) (h1 : n < 18446744073709551616) (r : List Int) : valL (num n.toNat ++ r) = (n, ((num n.toNat).length : Int)) := by
  unfold valL
  rw [dec_num n.toNat 0 r (by omega) (by simp; omega) (.inr rfl)]
  simp only [Int.toNat_of_nonneg h0]
theorem val_nil : valL [] = (0, 0) := rfl
theorem C_dropc {w : World} {a : Addr} {xs : List Int} (h : (Kd.int .u8).C w (some a) xs.length xs) (k : Nat) (hk : k ≤ xs.length) (c : Nat) (hc : xs.length ≤ c) :
    (Kd.int .u8).C w (if c = k then some a else some (a.add k)) (xs.drop k).length (xs.drop k) := by
  by_cases e : c = k
  · rw [if_pos e]
    have hl : (xs.drop k).length = 0 := by rw [List.length_drop]; omega
    exact Kd.C_of_reads (d := (0 : Int)) ⟨rfl, by omega, fun h0 => by omega⟩
  · rw [if_neg e]; exact C_drop h k hk
theorem value_c {w : World} {A : Option Addr} {c : Nat} {xs : List Int} (hC : (Kd.int .u8).C w A xs.length xs) (hc : xs.length ≤ c) (hb : Bts xs) :
    Calls Try.prog 11 #[.slice A xs.length c] w fun e w' => e = .returned (.tuple #[.int .u64 (valL xs).1, .int .i64 (valL xs).2]) ∧ ∃ nd, w' = w.drewN nd :=
  (dfacode_Value.calls (3 * xs.length + 1) A c xs _ _ w hC hc (value_f xs hb hC.2.1 _ (by omega))).mono fun e w' h => ⟨h.1, h.2.out⟩

set_option maxRecDepth 20000 in
set_option maxHeartbeats 1000000 in
theorem sizes_c {w : World} {A : Option Addr} {c : Nat} {l : List Int} (hR : (Kd.int .u64).C w A l.length l) (hl : ∀ n ∈ l, 0 ≤ n ∧ n < 18446744073709551616) :
    Calls Try.prog 7 #[.slice A l.length c] w fun e w' => e = .returned (.bool true) ∧ Below w.heap.size w w' := by
  have hRH := Lib.hid hR
  have hlH := Lib.hid hl
  have hlen : l.length ≤ 9223372036854775807 := hR.2.1
  have hawk := Lib.hid (awake_c w)
  clear hR hl
  by_cases h30 : (30 : Int) < (l.length : Int)
  · have hd : decide ((30 : Int) < (l.length : Int)) = true := decide_eq_true h30
    go_enter Try.func7, Try.ntmps7
    go_wp2_with (go_at_call 8; refine (hawk.out).mono ?_; rintro e w1 ⟨rfl, hb1⟩)
    go_ret
    exact ⟨rfl, hb1⟩
  · have hd : decide ((30 : Int) < (l.length : Int)) = false := decide_eq_false h30
    go_enter Try.func7, Try.ntmps7
    go_wp2_with (go_at_call 8; refine (hawk.out).mono ?_; rintro e w1 ⟨rfl, hb1⟩; have hb1H := Lib.hid hb1; clear hb1)
    go_loopw [4, 5] (fun bv ii wr => ∃ (i : Nat), i ≤ l.length ∧ ii = .int .i64 i ∧ Hid ((Kd.int .u8).R 5 wr w.heap.size (fun _ => True) bv (fl (l.take i)) ∧ Below w.heap.size w wr)) (fun _ ii _ => l.length - (intOf ii).toNat)
    case atStart => exact ⟨0, by omega, rfl, Lib.hid ⟨Kd.R_nil _ _ _ _ _, hb1H.out⟩⟩
    case round =>
      obtain ⟨i, hi, rfl, hA⟩ := hrel
      by_cases hlt : i < l.length
      · have hd2 : decide ((i : Int) < (l.length : Int)) = true := decide_eq_true (by omega)
        have hnb := hlH.out l[i] (List.getElem_mem hlt)
        have hstep := Lib.hid (fl_take l i hlt)
        obtain ⟨A4, c4, e4⟩ := Kd.R_slice hA.out.1
        subst e4
        have hle := Lib.hid (fl_len (l.take i) (fun x hx => hlH.out x (List.mem_of_mem_take hx)))
        have hC1 := Kd.C_below hRH.out hA.out.2
        obtain ⟨ad, hAd, hc0⟩ := Kd.at_int hC1 (i : Int) (by omega) (by omega)
        have en : rd l (i : Int) = l[i] := by simp [rd, hlt]
        rw [Int.toNat_natCast, en] at hc0
        have hcH := Lib.hid (fun (w1 : World) (hb : Below wr.heap.size wr w1) => show w1.cell? (ad.add i) = some (.int .u64 l[i]) from by
          obtain ⟨ad', hAd', hc'⟩ := Kd.at_int (Kd.C_below hC1 hb) (i : Int) (by omega) (by omega)
          rw [Int.toNat_natCast, en] at hc'
          rw [hAd] at hAd'
          injection hAd' with e
          rw [e]; exact hc')
        subst hAd
        clear hC1 en
        generalize l[i] = n at *
        obtain ⟨N, rfl⟩ := Int.eq_ofNat_of_zero_le hnb.1
        have hNb : N < 18446744073709551616 := by omega
        go_upto_region 13 with (go_at_call 13; refine (numK hnb.1 hnb.2 _).mono ?_; rintro e w1 ⟨v1, rfl, ho1, hb1⟩; have hcw := hcH.out w1 hb1; have ho1H := Lib.hid ho1; have hb1H := Lib.hid hb1; clear ho1 hb1)
        go_wp2
        obtain ⟨A1, c1, hv1, hl1, hC1⟩ := Kd.R_reads ho1H.out
        subst hv1
        have hntl := Lib.hid (num_tl N)
        have hnl := num_len10 N hNb
        go_loopw [7, 8] (fun sz nn wr' => ∃ (s M : Nat), sz = .int .i64 s ∧ nn = .int .u64 M ∧ s + tl M = (num N).length ∧ M < 18446744073709551616 ∧ wr' = w1) (fun _ nn _ => (intOf nn).toNat)
        case atStart => exact ⟨1, N / 128, rfl, by go_num, hntl.out.symm, by omega, rfl⟩
        case round =>
          obtain ⟨s, M, rfl, rfl, hsM, hMb, rfl⟩ := hrel
          by_cases hM : 0 < M
          · have hd3 : decide ((0 : Int) < (M : Int)) = true := decide_eq_true (by omega)
            have hts := tl_step M hM
            have hw : IntKind.u64.wrap ((M : Int) / 128) = (M : Int) / 128 := by rw [IntKind.wrap_u64]; omega
            go_wp2
            go_roundw
            case rel => exact ⟨s + 1, M / 128, by go_num, by go_num, by omega, by omega, trivial⟩
            case measure => simp [intOf]; omega
          · have hd3 : decide ((0 : Int) < (M : Int)) = false := decide_eq_false (by omega)
            obtain rfl : M = 0 := by omega
            rw [tl_zero, Nat.add_zero] at hsM
            have hx : ((num (N : Int).toNat).length : Int) = (s : Int) := by rw [Int.toNat_natCast]; omega
            have hx2 : (((num (N : Int).toNat).length : Int) == (s : Int)) = true := by rw [hx]; simp
            have hb2H := Lib.hid (below_then hA.out.2 hA.out.2.size hb1H.out)
            have hR2 := Lib.hid (Kd.R_below hA.out.1 hb1H.out)
            have hll : (fl (l.take i)).length + (num (N : Int).toNat).length ≤ 1000 := by
              have := hle.out
              rw [List.length_take] at this
              rw [Int.toNat_natCast]; omega
            have hpos := num_len_pos (N : Int).toNat
            generalize num (N : Int).toNat = zs at *
            generalize fl (l.take i) = bs at *
            go_wp2_with ((with_reducible refine gate_builtin (b := .append) (xs := #[.tmp 46, .tmp 47]) rfl ?_); at_builtin; refine Kd.R_append_rows (Kd.int .u8) (w0 := w) w.heap.size rfl (.tmp 46) (.tmp 47) 25 5 (.int .u8 0) 1 rfl Try.underlying25 info5 rfl (by decide) (by decide) (.slice A4 bs.length c4) bs zs A1 _ c1 (fun _ => True) (fun _ => False) rfl rfl hR2.out hC1 (fun _ _ h => h) (fun _ h => h.elim) (fun _ _ => trivial) hb2H.out hb2H.out.size (by omega) ?_; intro v3 w3 ho3 hb3 hg3 hat3)
            go_roundw
            case rel => exact ⟨i + 1, by omega, by go_num, by rw [hstep.out]; exact Lib.hid ⟨ho3, hb3⟩⟩
            case measure => simp [intOf]; omega
      · have hd2 : decide ((i : Int) < (l.length : Int)) = false := decide_eq_false (by omega)
        obtain rfl : i = l.length := by omega
        rw [List.take_length] at hA
        obtain ⟨A4, c4, e4, hl4, hC4⟩ := Kd.R_reads hA.out.1
        subst e4
        have hb2H := Lib.hid hA.out.2
        have hC4H := Lib.hid hC4
        clear hA hC4
        go_wp2
        go_loopw [4, 9] (fun bv ii wr => ∃ (i : Nat) (A4 : Option Addr) (c4 : Nat), i ≤ l.length ∧ ii = .int .i64 i ∧ bv = .slice A4 (fl (l.drop i)).length c4 ∧ Hid ((Kd.int .u8).C wr A4 (fl (l.drop i)).length (fl (l.drop i)) ∧ (fl (l.drop i)).length ≤ c4 ∧ Below w.heap.size w wr)) (fun _ ii _ => l.length - (intOf ii).toNat)
        case atStart => exact ⟨0, A4, c4, by omega, rfl, by rw [List.drop_zero], Lib.hid ⟨by rw [List.drop_zero]; exact hC4H.out, by rw [List.drop_zero]; exact hl4, hb2H.out⟩⟩
        case round =>
          obtain ⟨i, A5, c5, hi, rfl, rfl, hB⟩ := hrel
          clear hC4H hb2H hl4
          by_cases hlt : i < l.length
          · have hd2 : decide ((i : Int) < (l.length : Int)) = true := decide_eq_true (by omega)
            have hnb := hlH.out l[i] (List.getElem_mem hlt)
            have hstep := fl_drop l i hlt
            have hC1 := Kd.C_below hRH.out hB.out.2.2
            have hbd := fl_bd (l.drop i)
            have hlen5 := hB.out.2.1
            have hle := fl_len (l.drop (i + 1)) (fun x hx => hlH.out x (List.mem_of_mem_drop hx))
            rw [List.length_drop] at hle
            have hval := Lib.hid (fun h => value_c (c := c5) hB.out.1 h hbd)
            have hCb := Lib.hid hB.out.1
            have hBb := Lib.hid hB.out.2.2
            clear hB
            rw [hstep] at hval hCb hlen5 hbd
            rw [val_num _ hnb.1 hnb.2] at hval
            rw [hstep]
            clear hstep
            obtain ⟨ad, hAd, hc0⟩ := Kd.at_int hC1 (i : Int) (by omega) (by omega)
            have en : rd l (i : Int) = l[i] := by simp [rd, hlt]
            rw [Int.toNat_natCast, en] at hc0
            have hcH := Lib.hid (fun (w1 : World) (hb : Below wr.heap.size wr w1) => show w1.cell? (ad.add i) = some (.int .u64 l[i]) from by
              obtain ⟨ad', hAd', hc'⟩ := Kd.at_int (Kd.C_below hC1 hb) (i : Int) (by omega) (by omega)
              rw [Int.toNat_natCast, en] at hc'
              rw [hAd] at hAd'
              injection hAd' with e
              rw [e]; exact hc')
            subst hAd
            have hkp := num_len_pos (l[i]).toNat
            have hk10 := num_len10 (l[i]).toNat (by omega)
            have hdr := Lib.hid (show ∀ (X : List Int), X = (num (l[i]).toNat ++ X).drop (num (l[i]).toNat).length from fun X => by rw [List.drop_append_length])
            clear hC1 en hc0
            generalize l[i] = n at *
            generalize num n.toNat = zs at *
            have hrl := Lib.hid hle
            generalize hfr : fl (l.drop (i + 1)) = rs at *
            obtain ⟨ad5, hA5, _⟩ := Kd.at_int hCb.out 0 (by omega) (by rw [List.length_append]; omega)
            subst hA5
            have hrs : rs.length ≤ 1000 := by omega
            have hblH := Lib.hid (show (zs ++ rs).length = zs.length + rs.length from List.length_append)
            have hdrw := Lib.hid (hdr.out rs)
            clear hdr
            generalize zs ++ rs = bs at *
            have hzl : zs.length ≤ bs.length := by rw [hblH.out]; omega
            have hbl2 : bs.length ≤ 1010 := by rw [hblH.out]; omega
            have hz1 : decide ((zs.length : Int) < 1) = false := decide_eq_false (by omega)
            have hz2 : decide ((bs.length : Int) < (zs.length : Int)) = false := decide_eq_false (by omega)
            go_upto_region 23 with (go_at_call 11; refine (hval.out hlen5).mono ?_; rintro e w1 ⟨rfl, nd, rfl⟩; have hcw := hcH.out _ (pw_below_drewN (Below.refl _ _) nd); have hbw := Lib.hid (pw_below_drewN hBb.out nd); have hCw := Lib.hid (Kd.C_drewN hCb.out nd))
            go_wp2
            go_roundw
            case rel =>
              refine ⟨i + 1, _, _, by omega, by go_num, by rw [hfr, hblH.out, Nat.add_sub_cancel_left], Lib.hid ⟨?_, ?_, hbw.out⟩⟩
              · rw [hfr, hdrw.out]; exact C_dropc hCw.out zs.length hzl c5 hlen5
              · rw [hfr]; have := hblH.out; omega
            case measure => simp [intOf]; omega
          · have hd2 : decide ((i : Int) < (l.length : Int)) = false := decide_eq_false (by omega)
            obtain rfl : i = l.length := by omega
            have hCe := hB.out.1
            have hBe := Lib.hid hB.out.2.2
            have hve := Lib.hid (fun h => value_c (c := c5) hCe h (fl_bd _))
            clear hB hCe
            rw [List.drop_length, fl_nil, val_nil] at hve
            rw [List.drop_length, fl_nil]
            go_wp2_with (go_at_call 11; refine (hve.out (Nat.zero_le _)).mono ?_; rintro e w1 ⟨rfl, nd, rfl⟩)
            go_ret
            exact ⟨rfl, pw_below_drewN hBe.out nd⟩
end Go.Proofs.Ytokdggmobhnnpaa
