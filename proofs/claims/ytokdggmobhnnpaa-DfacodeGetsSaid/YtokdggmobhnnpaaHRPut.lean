/- The reference's bytes and Put: their walks. Own text. -/
import Derived.Test.YtokdggmobhnnpaaHPut
import Derived.Test.YtokdggmobhnnpaaRPl
import Derived.Test.YtokdggmobhnnpaaRChk
namespace Go.Proofs.Ytokdggmobhnnpaa
open Go.RowKit Go.Proofs.Ytokdggmobhnnpaa.P Go.Proofs.Ytokdggmobhnnpaa.Enc Go.Proofs.YtokdggmobhnnpaaW.PrintWords Go.Proofs.YtokdggmobhnnpaaW.PrintLast Go.Proofs.YtokdggmobhnnpaaW.PrintMore
set_option linter.unusedVariables false
set_option linter.unusedSimpArgs false

theorem rnum_c {B : Nat} {w0 : World} (w : World) (n : Int) (h0 : 0 ≤ n ∧ n < 18446744073709551616) (hb : Below B w0 w) (hB : B ≤ w.heap.size) :
    Calls Try.prog 14 #[.int .u64 n] w fun e w' => e = .returned (.string (strOfNums (num n.toNat))) ∧ Below B w0 w' ∧ Below w.heap.size w w' := by
  obtain ⟨N, rfl⟩ := Int.eq_ofNat_of_zero_le h0.1
  rw [Int.toNat_natCast]
  exact (homographref11_Number.calls 20 _ _ w (rnumber_f N (by omega) 20 (by have := num_len10 N (by omega); omega))).mono fun e w' h => ⟨h.1, below_then hb hB h.2, h.2⟩
theorem convS {w : World} {A : Option Addr} {n c : Nat} {xs : List Int} (h : (Kd.int .u8).C w A n xs) : (convert 25 9 (.slice A n c)).run Try.prog w = .ok (.string (strOfNums xs)) w :=
  Kd.C_string (P := Try.prog) (src := 25) (dst := 9) (e := 5) Try.underlying25 Try.underlying5 Try.underlying9 h
theorem mark_str : (⟨#[68, 70, 65, 49]⟩ : ByteArray) = strOfNums [68, 70, 65, 49] := by decide +kernel
theorem encA_str (q : S59) : strOfNums [q.f0, q.f1] ++ strOfNums (num q.f2.toNat) = strOfNums (encA q) := by rw [← so_app]; rfl
set_option maxRecDepth 20000 in
set_option maxHeartbeats 2000000 in
theorem bytes_c (A : Option Addr) (c : Nat) (m : List S57) (w : World) (hR : Kd.C k57 w A m.length m) (hc : m.length ≤ c) (hg : goodB m = true) (ho : OkM m) :
    Calls Try.prog 25 #[.slice A m.length c] w fun e w' => e = .returned (.string (strOfNums (body m))) ∧ Below w.heap.size w w' := by
  have hRH := Lib.hid hR
  have hlen : m.length ≤ 9223372036854775807 := hR.2.1
  have hbl := Lib.hid (body_len m hg ho)
  have hm4 := good_len m hg
  have hga := Lib.hid (good_arcs m hg ho)
  have hoH := Lib.hid ho
  have hwm : IntKind.u64.wrap (m.length : Int) = (m.length : Int) := by rw [IntKind.wrap_u64]; omega
  have hn1 := Lib.hid (fun w1 => rnum_c (B := w.heap.size) (w0 := w) w1 (m.length : Int) (by omega))
  rw [Int.toNat_natCast] at hn1
  have hs0 := Lib.hid (show (⟨#[68, 70, 65, 49]⟩ : ByteArray) ++ strOfNums (num m.length) = strOfNums (hd m 0) by rw [mark_str, ← so_app, hd_zero])
  have hl0 := num_len10 m.length (by omega)
  have hz0 := so_size (num m.length)
  rw [← hz0] at hl0
  have hb0 : (9223372036854775807 < (⟨#[68, 70, 65, 49]⟩ : ByteArray).size + (strOfNums (num m.length)).size) = False := eq_false (by rw [show (⟨#[68, 70, 65, 49]⟩ : ByteArray).size = 4 from rfl]; omega)
  have hhdf := Lib.hid (hd_full m)
  have hhds := Lib.hid (hd_succ m)
  have hhdl := Lib.hid (hd_le m)
  clear hR ho hg hz0
  generalize strOfNums (num m.length) = T0 at *
  go_enter Try.func25, Try.ntmps25
  go_wp2_with (go_at_call 14; refine (hn1.out _ (by repeat (first | exact Below.refl _ _ | apply below_drew1)) (by simp)).mono ?_; rintro e w1 ⟨rfl, hb1, -⟩; have hB1 := Lib.hid hb1; clear hb1)
  clear hn1 hb0 hl0
  go_loopw [3, 4] (fun ss ii wr => ∃ i : Nat, i ≤ m.length ∧ ii = .int .i64 i ∧ ss = .string (strOfNums (hd m i)) ∧ Hid (Below w.heap.size w wr)) (fun _ ii _ => m.length - (intOf ii).toNat)
  case atStart => exact ⟨0, by omega, rfl, by rw [hs0.out], hB1⟩
  case round =>
    clear hB1 hs0
    obtain ⟨i, hi, rfl, rfl, hB⟩ := hrel
    obtain ⟨wo, rfl⟩ : ∃ wo : World, wo = wr := ⟨_, rfl⟩
    by_cases hlt : i < m.length
    · have hd1 : decide ((i : Int) < (m.length : Int)) = true := decide_eq_true (by omega)
      obtain ⟨ad, A1, c1, hAd, hc0, hc1, hl1, hC1⟩ := at_T57 hRH.out (i : Int) (by omega) (by omega)
      subst hAd
      rw [rd57 m i hlt] at hc0 hc1 hl1 hC1
      rw [Int.toNat_natCast] at hc0 hc1
      have hC1H := Lib.hid hC1
      have hgai := Lib.hid (hga.out m[i] (List.getElem_mem hlt))
      have hoi := Lib.hid (hoH.out.2 m[i] (List.getElem_mem hlt))
      have hsu := Lib.hid (hhds.out i hlt)
      have hle1 := hhdl.out (i + 1)
      have hbl2 := hbl.out
      rw [hsu.out, List.length_append] at hle1
      have hst0 := Lib.hid (st_zero m[i])
      have hstf := Lib.hid (st_full m[i])
      have hsts := Lib.hid (st_succ m[i])
      have hstl := Lib.hid (st_le m[i])
      have hal := hgai.out.1
      have hws : IntKind.u64.wrap ((m[i].f1.length : Nat) : Int) = ((m[i].f1.length : Nat) : Int) := by rw [IntKind.wrap_u64]; omega
      have hf0 := hoi.out.1
      clear hC1
      generalize m[i] = s at *
      generalize hd m i = ys at *
      have hstz := hstl.out 0
      rw [hst0.out, List.length_append] at hstz
      have hm0 := Lib.hid (fun w1 => rnum_c (B := w.heap.size) (w0 := w) w1 s.f0 hf0)
      have hm1 := Lib.hid (fun w1 => rnum_c (B := w.heap.size) (w0 := w) w1 (s.f1.length : Int) (by omega))
      rw [Int.toNat_natCast] at hm1
      have hz0 := so_size (num s.f0.toNat)
      have hz1 := so_size (num s.f1.length)
      have hz2 := so_size ys
      have hss := Lib.hid (show strOfNums ys ++ (strOfNums (num s.f0.toNat) ++ strOfNums (num s.f1.length)) = strOfNums (ys ++ st s 0) by rw [← so_app, ← so_app, hst0.out])
      have hr0 := pw_cell_below hB.out hc0
      have hr1 := pw_cell_below hB.out hc1
      have hkc := Lib.hid (fun w1 (h : Below w.heap.size w w1) => (⟨pw_cell_below h hc0, pw_cell_below h hc1⟩ : _ ∧ _))
      clear hc0 hc1
      clear hst0
      generalize strOfNums (num s.f0.toNat) = T0 at *
      generalize strOfNums (num s.f1.length) = T1 at *
      generalize strOfNums ys = T2 at *
      have hb1 : (9223372036854775807 < T0.size + T1.size) = False := eq_false (by omega)
      have hb2 : (9223372036854775807 < T2.size + (T0.size + T1.size)) = False := eq_false (by omega)
      clear hz0 hz1 hz2 hstz
      go_wp2
      refine start_ (n := 18) (S := (fun w' => w'.cell? (ad.add (i * 2)) = some (.int .u64 s.f0) ∧ w'.cell? ⟨(ad.add (i * 2)).block, (ad.add (i * 2)).off + 1, none⟩ = some (.slice A1 s.f1.length c1))) (ds := []) #[false, false, false, false, false, false, false, false, false, false, false, false, false, false, false, false, false, false] (by kernel_rfl) rfl rfl ?_ (fun hHeld => ?_)
      · exact ⟨hr0, hr1⟩
      have hB2 := Lib.hid (below_drew1 hB.out)
      have hzz : w.heap.size ≤ wo.drew.heap.size := hB.out.size
      generalize wo.drew = Wa at *
      clear hr0 hr1
      refine pure_ (i := 0) (N := (some 18)) (v := ?_) (a' := ?_) #[true, false, false, false, false, false, false, false, false, false, false, false, false, false, false, false, false, false] rfl rfl (by kernel_rfl) (fun _ _ _ h => h) (Or.inl ⟨by rfl, ?_⟩) ?_ ?_
      rotate_left
      · intro w'
        go_simp
        with_reducible rfl
      rotate_left
      · simp only [Act.put, List.setIfInBounds_toArray, List.set_cons_zero, List.set_cons_succ, i64_w, i32_w]
        rfl
      refine pure_ (i := 1) (N := (some 19)) (v := ?_) (a' := ?_) #[true, true, false, false, false, false, false, false, false, false, false, false, false, false, false, false, false, false] rfl rfl (by kernel_rfl) (fun _ _ _ h => h) (Or.inl ⟨by rfl, ?_⟩) ?_ ?_
      rotate_left
      · intro w'
        go_simp
        with_reducible rfl
      rotate_left
      · simp only [Act.put, List.setIfInBounds_toArray, List.set_cons_zero, List.set_cons_succ, i64_w, i32_w]
        rfl
      refine pure_ (i := 2) (N := (some 20)) (v := ?_) (a' := ?_) #[true, true, true, false, false, false, false, false, false, false, false, false, false, false, false, false, false, false] rfl rfl (by kernel_rfl) (fun _ _ _ h => h) (Or.inl ⟨by rfl, ?_⟩) ?_ ?_
      rotate_left
      · intro w'
        go_simp
        with_reducible rfl
      rotate_left
      · simp only [Act.put, List.setIfInBounds_toArray, List.set_cons_zero, List.set_cons_succ, i64_w, i32_w]
        rfl
      refine pure_ (i := 3) (N := (some 21)) (v := ?_) (a' := ?_) #[true, true, true, true, false, false, false, false, false, false, false, false, false, false, false, false, false, false] rfl rfl (by kernel_rfl) (fun _ _ _ h => h) (Or.inl ⟨by rfl, ?_⟩) ?_ ?_
      rotate_left
      · intro w'
        go_simp
        with_reducible rfl
      rotate_left
      · simp only [Act.put, List.setIfInBounds_toArray, List.set_cons_zero, List.set_cons_succ, i64_w, i32_w]
        rfl
      refine pure_ (i := 4) (N := (some 22)) (v := ?_) (a' := ?_) #[true, true, true, true, true, false, false, false, false, false, false, false, false, false, false, false, false, false] rfl rfl (by kernel_rfl) (fun _ _ _ h => h) (Or.inl ⟨by rfl, ?_⟩) ?_ ?_
      rotate_left
      · intro w'
        go_simp
        with_reducible rfl
      rotate_left
      · simp only [Act.put, List.setIfInBounds_toArray, List.set_cons_zero, List.set_cons_succ, i64_w, i32_w]
        rfl
      refine take_ (i := 5) (N := (some 23)) (v := ?_) (a' := ?_) #[true, true, true, true, true, true, false, false, false, false, false, false, false, false, false, false, false, false] rfl rfl (by kernel_rfl) (fun _ _ _ h => h) (Or.inl ⟨by rfl, ?_⟩) hHeld ?_ ?_
      rotate_left
      · intro w' ⟨hq0, hq1⟩
        go_simp
        with_reducible rfl
      rotate_left
      · simp only [Act.put, List.setIfInBounds_toArray, List.set_cons_zero, List.set_cons_succ, i64_w, i32_w]
        rfl
      refine pure_ (i := 7) (N := (some 25)) (v := ?_) (a' := ?_) #[true, true, true, true, true, true, false, true, false, false, false, false, false, false, false, false, false, false] rfl rfl (by kernel_rfl) (fun _ _ _ h => h) (Or.inl ⟨by rfl, ?_⟩) ?_ ?_
      rotate_left
      · intro w'
        go_simp
        with_reducible rfl
      rotate_left
      · simp only [Act.put, List.setIfInBounds_toArray, List.set_cons_zero, List.set_cons_succ, i64_w, i32_w]
        rfl
      refine pure_ (i := 8) (N := (some 26)) (v := ?_) (a' := ?_) #[true, true, true, true, true, true, false, true, true, false, false, false, false, false, false, false, false, false] rfl rfl (by kernel_rfl) (fun _ _ _ h => h) (Or.inl ⟨by rfl, ?_⟩) ?_ ?_
      rotate_left
      · intro w'
        go_simp
        with_reducible rfl
      rotate_left
      · simp only [Act.put, List.setIfInBounds_toArray, List.set_cons_zero, List.set_cons_succ, i64_w, i32_w]
        rfl
      refine pure_ (i := 9) (N := (some 27)) (v := ?_) (a' := ?_) #[true, true, true, true, true, true, false, true, true, true, false, false, false, false, false, false, false, false] rfl rfl (by kernel_rfl) (fun _ _ _ h => h) (Or.inl ⟨by rfl, ?_⟩) ?_ ?_
      rotate_left
      · intro w'
        go_simp
        with_reducible rfl
      rotate_left
      · simp only [Act.put, List.setIfInBounds_toArray, List.set_cons_zero, List.set_cons_succ, i64_w, i32_w]
        rfl
      refine pure_ (i := 10) (N := (some 28)) (v := ?_) (a' := ?_) #[true, true, true, true, true, true, false, true, true, true, true, false, false, false, false, false, false, false] rfl rfl (by kernel_rfl) (fun _ _ _ h => h) (Or.inl ⟨by rfl, ?_⟩) ?_ ?_
      rotate_left
      · intro w'
        go_simp
        with_reducible rfl
      rotate_left
      · simp only [Act.put, List.setIfInBounds_toArray, List.set_cons_zero, List.set_cons_succ, i64_w, i32_w]
        rfl
      refine take_ (i := 11) (N := (some 29)) (v := ?_) (a' := ?_) #[true, true, true, true, true, true, false, true, true, true, true, true, false, false, false, false, false, false] rfl rfl (by kernel_rfl) (fun _ _ _ h => h) (Or.inl ⟨by rfl, ?_⟩) hHeld ?_ ?_
      rotate_left
      · intro w' ⟨hq0, hq1⟩
        go_simp
        with_reducible rfl
      rotate_left
      · simp only [Act.put, List.setIfInBounds_toArray, List.set_cons_zero, List.set_cons_succ, i64_w, i32_w]
        rfl
      refine pure_ (i := 12) (N := (some 30)) (v := ?_) (a' := ?_) #[true, true, true, true, true, true, false, true, true, true, true, true, true, false, false, false, false, false] rfl rfl (by kernel_rfl) (fun _ _ _ h => h) (Or.inl ⟨by rfl, ?_⟩) ?_ ?_
      rotate_left
      · intro w'
        go_simp
        with_reducible rfl
      rotate_left
      · simp only [Act.put, List.setIfInBounds_toArray, List.set_cons_zero, List.set_cons_succ, i64_w, i32_w]
        rfl
      refine pure_ (i := 13) (N := (some 31)) (v := ?_) (a' := ?_) #[true, true, true, true, true, true, false, true, true, true, true, true, true, true, false, false, false, false] rfl rfl (by kernel_rfl) (fun _ _ _ h => h) (Or.inl ⟨by rfl, ?_⟩) ?_ ?_
      rotate_left
      · intro w'
        go_simp
        with_reducible rfl
      rotate_left
      · simp only [Act.put, List.setIfInBounds_toArray, List.set_cons_zero, List.set_cons_succ, i64_w, i32_w]
        rfl
      refine one_ (i := 6) (N := (some 24)) #[true, true, true, true, true, true, true, true, true, true, true, true, true, true, false, false, false, false] rfl rfl (by kernel_rfl) (by decide) (fun K hK => ?_)
      refine goes_ Try.func14 (by kernel_rfl) rfl #[.int .u64 s.f0] (by rfl) rfl rfl (by simp only [List.map_toArray, List.map_cons, List.map_nil]; rfl) ?_
      refine (hm0.out _ hB2.out hzz).mono ?_
      rintro e Wb ⟨rfl, hb3, -⟩
      refine ⟨_, rfl, ?_⟩
      refine hK.out _ _ (hkc.out _ hb3) (fun hHeld => ?_)
      clear hK K
      refine norm_ (a' := ?_) ?_ ?_
      rotate_left
      · show Act.put _ (some 24) _ = _
        simp only [Act.put, List.setIfInBounds_toArray, List.set_cons_zero, List.set_cons_succ, i64_w, i32_w]
        rfl
      have hB3 := Lib.hid hb3
      have hzz3 : w.heap.size ≤ Wb.heap.size := hb3.size
      clear hb3
      refine one_ (i := 14) (N := (some 32)) #[true, true, true, true, true, true, true, true, true, true, true, true, true, true, true, false, false, false] rfl rfl (by kernel_rfl) (by decide) (fun K hK => ?_)
      refine goes_ Try.func14 (by kernel_rfl) rfl #[.int .u64 s.f1.length] (by rfl) rfl rfl (by simp only [List.map_toArray, List.map_cons, List.map_nil]; rfl) ?_
      refine (hm1.out _ hB3.out hzz3).mono ?_
      rintro e Wc ⟨rfl, hb4, -⟩
      refine ⟨_, rfl, ?_⟩
      refine hK.out _ _ (hkc.out _ hb4) (fun hHeld => ?_)
      clear hK K
      refine norm_ (a' := ?_) ?_ ?_
      rotate_left
      · show Act.put _ (some 32) _ = _
        simp only [Act.put, List.setIfInBounds_toArray, List.set_cons_zero, List.set_cons_succ, i64_w, i32_w]
        rfl
      have hB4 := Lib.hid hb4
      clear hb4
      refine pure_ (i := 15) (N := (some 33)) (v := ?_) (a' := ?_) #[true, true, true, true, true, true, true, true, true, true, true, true, true, true, true, true, false, false] rfl rfl (by kernel_rfl) (fun _ _ _ h => h) (Or.inl ⟨by rfl, ?_⟩) ?_ ?_
      rotate_left
      · intro w'
        go_simp
        with_reducible rfl
      rotate_left
      · simp only [Act.put, List.setIfInBounds_toArray, List.set_cons_zero, List.set_cons_succ, i64_w, i32_w]
        rfl
      refine pure_ (i := 16) (N := (some 34)) (v := ?_) (a' := ?_) #[true, true, true, true, true, true, true, true, true, true, true, true, true, true, true, true, true, false] rfl rfl (by kernel_rfl) (fun _ _ _ h => h) (Or.inl ⟨by rfl, ?_⟩) ?_ ?_
      rotate_left
      · intro w'
        go_simp
        with_reducible rfl
      rotate_left
      · simp only [Act.put, List.setIfInBounds_toArray, List.set_cons_zero, List.set_cons_succ, i64_w, i32_w]
        rfl
      refine pure_ (i := 17) (N := (some 3)) (v := ?_) (a' := ?_) #[true, true, true, true, true, true, true, true, true, true, true, true, true, true, true, true, true, true] rfl rfl (by kernel_rfl) (fun _ _ _ h => h) (Or.inl ⟨by rfl, ?_⟩) ?_ ?_
      rotate_left
      · intro w'
        go_simp
        with_reducible rfl
      rotate_left
      · simp only [Act.put, List.setIfInBounds_toArray, List.set_cons_zero, List.set_cons_succ, i64_w, i32_w]
        rfl
      refine done_ (by kernel_rfl) ?_
      clear hHeld hB2 hB3 hb1 hb2 hzz hzz3
      rw [hss.out]
      have hr1 := (hkc.out _ hB4.out).2
      clear hss hm0 hm1
      go_wp2
      go_loopw [3, 5] (fun ss jj wr => ∃ j : Nat, j ≤ s.f1.length ∧ jj = .int .i64 j ∧ ss = .string (strOfNums (ys ++ st s j)) ∧ Hid (Below w.heap.size w wr)) (fun _ jj _ => s.f1.length - (intOf jj).toNat)
      case atStart => exact ⟨0, by omega, rfl, rfl, hB4⟩
      case round =>
        clear hB4 hr1
        obtain ⟨j, hj, rfl, rfl, hU⟩ := hrel
        obtain ⟨wp, rfl⟩ : ∃ wp : World, wp = wr := ⟨_, rfl⟩
        have hr1 := (hkc.out _ hU.out).2
        by_cases hlj : j < s.f1.length
        · have hd2 : decide ((j : Int) < (s.f1.length : Int)) = true := decide_eq_true (by omega)
          have hCp := Kd.C_below hC1H.out hU.out
          obtain ⟨ad2, hAd2, hk0, hk1, hk2⟩ := at_T59 hCp (j : Int) (by omega) (by omega)
          subst hAd2
          rw [rd59 s.f1 j hlj] at hk0 hk1 hk2
          rw [Int.toNat_natCast] at hk0 hk1 hk2
          have hoa := hoi.out.2.2 s.f1[j] (List.getElem_mem hlj)
          have hsj := hsts.out j hlj
          have hsl := hstl.out (j + 1)
          rw [hsj] at hsl
          simp only [List.length_append, List.length_cons] at hsl
          have hsjH := Lib.hid (show strOfNums (ys ++ st s j) ++ (strOfNums [s.f1[j].f0, s.f1[j].f1] ++ strOfNums (num s.f1[j].f2.toNat)) = strOfNums (ys ++ st s (j + 1)) by rw [encA_str, ← so_app, hsj, List.append_assoc]; rfl)
          have hlz : (ys ++ st s j).length + 2 + (num s.f1[j].f2.toNat).length ≤ 1000000000 := by rw [List.length_append]; omega
          have hwt : IntKind.u64.wrap s.f1[j].f2 = s.f1[j].f2 := by rw [IntKind.wrap_u64]; have := hoa.2.2; omega
          have hm3 := Lib.hid (fun w1 => rnum_c (B := w.heap.size) (w0 := w) w1 s.f1[j].f2 hoa.2.2)
          have hz3 := so_size (num s.f1[j].f2.toNat)
          have hz4 := so_size (ys ++ st s j)
          have hz5 := so_size [s.f1[j].f0, s.f1[j].f1]
          simp only [List.length_cons, List.length_nil] at hz5
          clear hCp hsj hsl hoa
          generalize s.f1[j] = q at *
          generalize strOfNums (num q.f2.toNat) = T3 at *
          generalize strOfNums (ys ++ st s j) = T4 at *
          obtain ⟨T5, hT5⟩ : ∃ T5, strOfNums [q.f0, q.f1] = T5 := ⟨_, rfl⟩
          rw [hT5] at hsjH hz5
          have hT5H := Lib.hid hT5
          have hb1 : (9223372036854775807 < T5.size + T3.size) = False := eq_false (by omega)
          have hb2 : (9223372036854775807 < T4.size + (T5.size + T3.size)) = False := eq_false (by omega)
          clear hT5
          clear hz3 hz4 hz5 hlz
          go_upto_region 10 with (fail)
          have hS8 := Blk.new wp 59 #[.int .u8 q.f0, .int .u8 q.f1, .int .i64 q.f2]
          have hB6 := Lib.hid (below_alloc hU.out (.cells #[.int .u8 q.f0, .int .u8 q.f1, .int .i64 q.f2] 59))
          generalize wp.alloc (.cells #[.int .u8 q.f0, .int .u8 q.f1, .int .i64 q.f2] 59) = Wa at *
          generalize wp.heap.size = h8 at *
          clear hk0 hk1 hk2 hr1
          refine start_ (n := 14) (S := (fun w' => w'.cell? ⟨h8, 0, none⟩ = some (.int .u8 q.f0) ∧ w'.cell? ⟨h8, 1, none⟩ = some (.int .u8 q.f1) ∧ w'.cell? ⟨h8, 2, none⟩ = some (.int .i64 q.f2))) (ds := []) #[false, false, false, false, false, false, false, false, false, false, false, false, false, false] (by kernel_rfl) rfl rfl ?_ (fun hHeld => ?_)
          · exact ⟨hS8.cell 0, hS8.cell 1, hS8.cell 2⟩
          have hB7 := Lib.hid (below_drew1 hB6.out)
          have hS9 : Blk Wa.drew h8 59 #[.int .u8 q.f0, .int .u8 q.f1, .int .i64 q.f2] := hS8
          have hzz : w.heap.size ≤ Wa.drew.heap.size := hB6.out.size
          generalize Wa.drew = Wb at *
          clear hS8 hB6
          have hS9H := Lib.hid hS9
          clear hS9
          refine pure_ (i := 0) (N := (some 53)) (v := ?_) (a' := ?_) #[true, false, false, false, false, false, false, false, false, false, false, false, false, false] rfl rfl (by kernel_rfl) (fun _ _ _ h => h) (Or.inl ⟨by rfl, ?_⟩) ?_ ?_
          rotate_left
          · intro w'
            go_simp
            with_reducible rfl
          rotate_left
          · simp only [Act.put, List.setIfInBounds_toArray, List.set_cons_zero, List.set_cons_succ, i64_w, i32_w]
            rfl
          refine pure_ (i := 1) (N := (some 54)) (v := ?_) (a' := ?_) #[true, true, false, false, false, false, false, false, false, false, false, false, false, false] rfl rfl (by kernel_rfl) (fun _ _ _ h => h) (Or.inl ⟨by rfl, ?_⟩) ?_ ?_
          rotate_left
          · intro w'
            go_simp
            with_reducible rfl
          rotate_left
          · simp only [Act.put, List.setIfInBounds_toArray, List.set_cons_zero, List.set_cons_succ, i64_w, i32_w]
            rfl
          refine take_ (i := 2) (N := (some 55)) (v := ?_) (a' := ?_) #[true, true, true, false, false, false, false, false, false, false, false, false, false, false] rfl rfl (by kernel_rfl) (fun _ _ _ h => h) (Or.inl ⟨by rfl, ?_⟩) hHeld ?_ ?_
          rotate_left
          · intro w' ⟨hq0, hq1, hq2⟩
            go_simp
            with_reducible rfl
          rotate_left
          · simp only [Act.put, List.setIfInBounds_toArray, List.set_cons_zero, List.set_cons_succ, i64_w, i32_w]
            rfl
          refine pure_ (i := 3) (N := (some 56)) (v := ?_) (a' := ?_) #[true, true, true, true, false, false, false, false, false, false, false, false, false, false] rfl rfl (by kernel_rfl) (fun _ _ _ h => h) (Or.inl ⟨by rfl, ?_⟩) ?_ ?_
          rotate_left
          · intro w'
            go_simp
            with_reducible rfl
          rotate_left
          · simp only [Act.put, List.setIfInBounds_toArray, List.set_cons_zero, List.set_cons_succ, i64_w, i32_w]
            rfl
          refine take_ (i := 4) (N := (some 57)) (v := ?_) (a' := ?_) #[true, true, true, true, true, false, false, false, false, false, false, false, false, false] rfl rfl (by kernel_rfl) (fun _ _ _ h => h) (Or.inl ⟨by rfl, ?_⟩) hHeld ?_ ?_
          rotate_left
          · intro w' ⟨hq0, hq1, hq2⟩
            go_simp
            with_reducible rfl
          rotate_left
          · simp only [Act.put, List.setIfInBounds_toArray, List.set_cons_zero, List.set_cons_succ, i64_w, i32_w]
            rfl
          refine pure_ (i := 7) (N := (some 60)) (v := ?_) (a' := ?_) #[true, true, true, true, true, false, false, true, false, false, false, false, false, false] rfl rfl (by kernel_rfl) (fun _ _ _ h => h) (Or.inl ⟨by rfl, ?_⟩) ?_ ?_
          rotate_left
          · intro w'
            go_simp
            with_reducible rfl
          rotate_left
          · simp only [Act.put, List.setIfInBounds_toArray, List.set_cons_zero, List.set_cons_succ, i64_w, i32_w]
            rfl
          refine take_ (i := 8) (N := (some 61)) (v := ?_) (a' := ?_) #[true, true, true, true, true, false, false, true, true, false, false, false, false, false] rfl rfl (by kernel_rfl) (fun _ _ _ h => h) (Or.inl ⟨by rfl, ?_⟩) hHeld ?_ ?_
          rotate_left
          · intro w' ⟨hq0, hq1, hq2⟩
            go_simp
            with_reducible rfl
          rotate_left
          · simp only [Act.put, List.setIfInBounds_toArray, List.set_cons_zero, List.set_cons_succ, i64_w, i32_w]
            rfl
          refine pure_ (i := 9) (N := (some 62)) (v := ?_) (a' := ?_) #[true, true, true, true, true, false, false, true, true, true, false, false, false, false] rfl rfl (by kernel_rfl) (fun _ _ _ h => h) (Or.inl ⟨by rfl, ?_⟩) ?_ ?_
          rotate_left
          · intro w'
            go_simp
            with_reducible rfl
          rotate_left
          · simp only [Act.put, List.setIfInBounds_toArray, List.set_cons_zero, List.set_cons_succ, i64_w, i32_w]
            rfl
          refine join_ (σ := Value) 3 #[true, true, true, true, true, true, true, true, true, true, true, false, false, false] (fun s_ => [(58, s_), (59, .string T5), (63, .string T3)]) (fun s_ w' => Below w.heap.size w w' ∧ Blk w' h8 59 #[.int .u8 q.f0, .int .u8 q.f1, .int .i64 q.f2]) ?_ ?_
          rotate_left
          · intro hCont
            have hD0 := hB7.out
            have hE0 := hS9H.out
            have hF0 := hzz
            obtain ⟨V0, rfl⟩ : ∃ V0, V0 = Wb := ⟨_, rfl⟩
            refine two_ (i := 5) (j := 10) (Ni := (some 58)) (Nj := (some 63)) #[true, true, true, true, true, true, false, true, true, true, false, false, false, false] #[true, true, true, true, true, false, false, true, true, true, true, false, false, false] rfl rfl rfl rfl (by kernel_rfl) (by decide) (by decide) (fun K hK => ?_) (fun K hK => ?_)
            · skip
              refine value_ (w1 := ?_) (v := ?_) (by rfl) rfl ?_ ?_
              rotate_left 2
              · go_simp
                constructor
                · rfl
                · rfl
              have hbA1 := below_alloc (Below.refl V0.heap.size V0) (.cells #[.int .u8 q.f0, .int .u8 q.f1] 5)
              have hC1 : (Kd.int .u8).C (V0.alloc (.cells #[.int .u8 q.f0, .int .u8 q.f1] 5)) (some ⟨V0.heap.size, 0, none⟩) 2 [q.f0, q.f1] := isU_new V0 5 .u8 [q.f0, q.f1] (by simp)
              have hD1 := below_alloc hD0 (.cells #[.int .u8 q.f0, .int .u8 q.f1] 5)
              have hE1 := hE0.below hbA1 hE0.lt
              have hF1 : w.heap.size ≤ (V0.alloc (.cells #[.int .u8 q.f0, .int .u8 q.f1] 5)).heap.size := hD1.size
              refine hK.out _ _ ⟨hE1.cell 0, hE1.cell 1, hE1.cell 2⟩ (fun hHeld => ?_)
              clear hK K
              refine norm_ (a' := ?_) ?_ ?_
              rotate_left
              · show Act.put _ (some 58) _ = _
                simp only [Act.put, List.setIfInBounds_toArray, List.set_cons_zero, List.set_cons_succ, i64_w, i32_w]
                rfl
              obtain ⟨V1, hV1⟩ : ∃ V1, V0.alloc (.cells #[.int .u8 q.f0, .int .u8 q.f1] 5) = V1 := ⟨_, rfl⟩
              rw [hV1] at hC1 hD1 hE1 hF1 hHeld ⊢
              clear hV1 hbA1
              obtain ⟨G, hG⟩ : ∃ G, V0.heap.size = G := ⟨_, rfl⟩
              rw [hG] at hC1 ⊢
              clear hG
              have hCC := Lib.hid hC1
              clear hC1
              have hDD1 := Lib.hid hD1
              refine two_ (i := 6) (j := 10) (Ni := (some 59)) (Nj := (some 63)) #[true, true, true, true, true, true, true, true, true, true, false, false, false, false] #[true, true, true, true, true, true, false, true, true, true, true, false, false, false] rfl rfl rfl rfl (by kernel_rfl) (by decide) (by decide) (fun K hK => ?_) (fun K hK => ?_)
              · skip
                have hcv := convS (c := 2) hCC.out
                rw [hT5H.out] at hcv
                refine value_ (w1 := ?_) (v := ?_) (by rfl) rfl ?_ ?_
                rotate_left 2
                · go_simp
                  constructor
                  · rfl
                  · rfl
                clear hcv
                refine hK.out _ _ ⟨hE1.cell 0, hE1.cell 1, hE1.cell 2⟩ (fun hHeld => ?_)
                clear hK K
                refine norm_ (a' := ?_) ?_ ?_
                rotate_left
                · show Act.put _ (some 59) _ = _
                  simp only [Act.put, List.setIfInBounds_toArray, List.set_cons_zero, List.set_cons_succ, i64_w, i32_w]
                  rfl
                obtain ⟨V2, rfl⟩ : ∃ V2, V2 = V1 := ⟨_, rfl⟩
                have hD2 := hD1
                have hE2 := hE1
                have hF2 := hF1
                refine one_ (i := 10) (N := (some 63)) #[true, true, true, true, true, true, true, true, true, true, true, false, false, false] rfl rfl (by kernel_rfl) (by decide) (fun K hK => ?_)
                refine goes_ Try.func14 (by kernel_rfl) rfl #[.int .u64 q.f2] (by rfl) rfl rfl (by simp only [List.map_toArray, List.map_cons, List.map_nil]; rfl) ?_
                refine (hm3.out _ hD2 hF2).mono ?_
                rintro e V3 ⟨rfl, hD3, hbb⟩
                refine ⟨_, rfl, ?_⟩
                have hE3 := hE2.below hbb hE2.lt
                have hF3 : w.heap.size ≤ V3.heap.size := hD3.size
                refine hK.out _ _ ⟨hE3.cell 0, hE3.cell 1, hE3.cell 2⟩ (fun hHeld => ?_)
                clear hK K
                refine norm_ (a' := ?_) ?_ ?_
                rotate_left
                · show Act.put _ (some 63) _ = _
                  simp only [Act.put, List.setIfInBounds_toArray, List.set_cons_zero, List.set_cons_succ, i64_w, i32_w]
                  rfl
                exact norm_ (by simp only [putAll, Act.put, List.setIfInBounds_toArray, List.set_cons_zero, List.set_cons_succ]) (hCont (.slice (some ⟨G, 0, none⟩) 2 2) _ ⟨hD3, hE3⟩)
              · skip
                refine goes_ Try.func14 (by kernel_rfl) rfl #[.int .u64 q.f2] (by rfl) rfl rfl (by simp only [List.map_toArray, List.map_cons, List.map_nil]; rfl) ?_
                refine (hm3.out _ hD1 hF1).mono ?_
                rintro e V2 ⟨rfl, hD2, hbb⟩
                refine ⟨_, rfl, ?_⟩
                have hE2 := hE1.below hbb hE1.lt
                have hF2 : w.heap.size ≤ V2.heap.size := hD2.size
                replace hCC := Lib.hid (Kd.C_below hCC.out hbb)
                refine hK.out _ _ ⟨hE2.cell 0, hE2.cell 1, hE2.cell 2⟩ (fun hHeld => ?_)
                clear hK K
                refine norm_ (a' := ?_) ?_ ?_
                rotate_left
                · show Act.put _ (some 63) _ = _
                  simp only [Act.put, List.setIfInBounds_toArray, List.set_cons_zero, List.set_cons_succ, i64_w, i32_w]
                  rfl
                refine one_ (i := 6) (N := (some 59)) #[true, true, true, true, true, true, true, true, true, true, true, false, false, false] rfl rfl (by kernel_rfl) (by decide) (fun K hK => ?_)
                have hcv := convS (c := 2) hCC.out
                rw [hT5H.out] at hcv
                refine value_ (w1 := ?_) (v := ?_) (by rfl) rfl ?_ ?_
                rotate_left 2
                · go_simp
                  constructor
                  · rfl
                  · rfl
                clear hcv
                refine hK.out _ _ ⟨hE2.cell 0, hE2.cell 1, hE2.cell 2⟩ (fun hHeld => ?_)
                clear hK K
                refine norm_ (a' := ?_) ?_ ?_
                rotate_left
                · show Act.put _ (some 59) _ = _
                  simp only [Act.put, List.setIfInBounds_toArray, List.set_cons_zero, List.set_cons_succ, i64_w, i32_w]
                  rfl
                obtain ⟨V3, rfl⟩ : ∃ V3, V3 = V2 := ⟨_, rfl⟩
                have hD3 := hD2
                have hE3 := hE2
                have hF3 := hF2
                exact norm_ (by simp only [putAll, Act.put, List.setIfInBounds_toArray, List.set_cons_zero, List.set_cons_succ]) (hCont (.slice (some ⟨G, 0, none⟩) 2 2) _ ⟨hD3, hE3⟩)
            · skip
              refine goes_ Try.func14 (by kernel_rfl) rfl #[.int .u64 q.f2] (by rfl) rfl rfl (by simp only [List.map_toArray, List.map_cons, List.map_nil]; rfl) ?_
              refine (hm3.out _ hD0 hF0).mono ?_
              rintro e V1 ⟨rfl, hD1, hbb⟩
              refine ⟨_, rfl, ?_⟩
              have hE1 := hE0.below hbb hE0.lt
              have hF1 : w.heap.size ≤ V1.heap.size := hD1.size
              refine hK.out _ _ ⟨hE1.cell 0, hE1.cell 1, hE1.cell 2⟩ (fun hHeld => ?_)
              clear hK K
              refine norm_ (a' := ?_) ?_ ?_
              rotate_left
              · show Act.put _ (some 63) _ = _
                simp only [Act.put, List.setIfInBounds_toArray, List.set_cons_zero, List.set_cons_succ, i64_w, i32_w]
                rfl
              refine one_ (i := 5) (N := (some 58)) #[true, true, true, true, true, true, false, true, true, true, true, false, false, false] rfl rfl (by kernel_rfl) (by decide) (fun K hK => ?_)
              refine value_ (w1 := ?_) (v := ?_) (by rfl) rfl ?_ ?_
              rotate_left 2
              · go_simp
                constructor
                · rfl
                · rfl
              have hbA2 := below_alloc (Below.refl V1.heap.size V1) (.cells #[.int .u8 q.f0, .int .u8 q.f1] 5)
              have hC2 : (Kd.int .u8).C (V1.alloc (.cells #[.int .u8 q.f0, .int .u8 q.f1] 5)) (some ⟨V1.heap.size, 0, none⟩) 2 [q.f0, q.f1] := isU_new V1 5 .u8 [q.f0, q.f1] (by simp)
              have hD2 := below_alloc hD1 (.cells #[.int .u8 q.f0, .int .u8 q.f1] 5)
              have hE2 := hE1.below hbA2 hE1.lt
              have hF2 : w.heap.size ≤ (V1.alloc (.cells #[.int .u8 q.f0, .int .u8 q.f1] 5)).heap.size := hD2.size
              refine hK.out _ _ ⟨hE2.cell 0, hE2.cell 1, hE2.cell 2⟩ (fun hHeld => ?_)
              clear hK K
              refine norm_ (a' := ?_) ?_ ?_
              rotate_left
              · show Act.put _ (some 58) _ = _
                simp only [Act.put, List.setIfInBounds_toArray, List.set_cons_zero, List.set_cons_succ, i64_w, i32_w]
                rfl
              obtain ⟨V2, hV2⟩ : ∃ V2, V1.alloc (.cells #[.int .u8 q.f0, .int .u8 q.f1] 5) = V2 := ⟨_, rfl⟩
              rw [hV2] at hC2 hD2 hE2 hF2 hHeld ⊢
              clear hV2 hbA2
              obtain ⟨G, hG⟩ : ∃ G, V1.heap.size = G := ⟨_, rfl⟩
              rw [hG] at hC2 ⊢
              clear hG
              have hCC := Lib.hid hC2
              clear hC2
              have hDD2 := Lib.hid hD2
              refine one_ (i := 6) (N := (some 59)) #[true, true, true, true, true, true, true, true, true, true, true, false, false, false] rfl rfl (by kernel_rfl) (by decide) (fun K hK => ?_)
              have hcv := convS (c := 2) hCC.out
              rw [hT5H.out] at hcv
              refine value_ (w1 := ?_) (v := ?_) (by rfl) rfl ?_ ?_
              rotate_left 2
              · go_simp
                constructor
                · rfl
                · rfl
              clear hcv
              refine hK.out _ _ ⟨hE2.cell 0, hE2.cell 1, hE2.cell 2⟩ (fun hHeld => ?_)
              clear hK K
              refine norm_ (a' := ?_) ?_ ?_
              rotate_left
              · show Act.put _ (some 59) _ = _
                simp only [Act.put, List.setIfInBounds_toArray, List.set_cons_zero, List.set_cons_succ, i64_w, i32_w]
                rfl
              obtain ⟨V3, rfl⟩ : ∃ V3, V3 = V2 := ⟨_, rfl⟩
              have hD3 := hD2
              have hE3 := hE2
              have hF3 := hF2
              exact norm_ (by simp only [putAll, Act.put, List.setIfInBounds_toArray, List.set_cons_zero, List.set_cons_succ]) (hCont (.slice (some ⟨G, 0, none⟩) 2 2) _ ⟨hD3, hE3⟩)
          rintro s_ W ⟨hB8, hS10⟩
          refine norm_ (a' := ?_) ?_ ?_
          rotate_left
          · simp only [putAll, Act.put, List.setIfInBounds_toArray, List.set_cons_zero, List.set_cons_succ]
            rfl
          have hB8H := Lib.hid hB8
          have hHeld : (fun w' => w'.cell? ⟨h8, 0, none⟩ = some (.int .u8 q.f0) ∧ w'.cell? ⟨h8, 1, none⟩ = some (.int .u8 q.f1) ∧ w'.cell? ⟨h8, 2, none⟩ = some (.int .i64 q.f2)) W := ⟨hS10.cell 0, hS10.cell 1, hS10.cell 2⟩
          clear hB8 hS10
          refine pure_ (i := 11) (N := (some 64)) (v := ?_) (a' := ?_) #[true, true, true, true, true, true, true, true, true, true, true, true, false, false] rfl rfl (by kernel_rfl) (fun _ _ _ h => h) (Or.inl ⟨by rfl, ?_⟩) ?_ ?_
          rotate_left
          · intro w'
            go_simp
            with_reducible rfl
          rotate_left
          · simp only [Act.put, List.setIfInBounds_toArray, List.set_cons_zero, List.set_cons_succ, i64_w, i32_w]
            rfl
          refine pure_ (i := 12) (N := (some 65)) (v := ?_) (a' := ?_) #[true, true, true, true, true, true, true, true, true, true, true, true, true, false] rfl rfl (by kernel_rfl) (fun _ _ _ h => h) (Or.inl ⟨by rfl, ?_⟩) ?_ ?_
          rotate_left
          · intro w'
            go_simp
            with_reducible rfl
          rotate_left
          · simp only [Act.put, List.setIfInBounds_toArray, List.set_cons_zero, List.set_cons_succ, i64_w, i32_w]
            rfl
          refine pure_ (i := 13) (N := (some 3)) (v := ?_) (a' := ?_) #[true, true, true, true, true, true, true, true, true, true, true, true, true, true] rfl rfl (by kernel_rfl) (fun _ _ _ h => h) (Or.inl ⟨by rfl, ?_⟩) ?_ ?_
          rotate_left
          · intro w'
            go_simp
            with_reducible rfl
          rotate_left
          · simp only [Act.put, List.setIfInBounds_toArray, List.set_cons_zero, List.set_cons_succ, i64_w, i32_w]
            rfl
          refine done_ (by kernel_rfl) ?_
          rw [hsjH.out]
          go_wp2
          go_roundw
          case rel => exact ⟨j + 1, by omega, by go_num, rfl, hB8H⟩
          case measure => simp [intOf]; omega
        · have hd2 : decide ((j : Int) < (s.f1.length : Int)) = false := decide_eq_false (by omega)
          obtain rfl : j = s.f1.length := by omega
          rw [hstf.out, ← hsu.out]
          go_wp2
          go_roundw
          case rel => exact ⟨i + 1, by omega, by go_num, rfl, hU⟩
          case measure => simp [intOf]; omega
    · have hd1 : decide ((i : Int) < (m.length : Int)) = false := decide_eq_false (by omega)
      obtain rfl : i = m.length := by omega
      rw [hhdf.out]
      go_wp2
      go_ret
      exact ⟨rfl, hB.out⟩

/-! Put. -/
def P.homographref11_Put.f (m : List S57) : Option (ByteArray × Int) := if PreP m then some (if goodB m = true then (strOfNums (putL m), 0) else (strOfNums [], 110)) else none
set_option maxRecDepth 20000 in
set_option maxHeartbeats 1000000 in
theorem rput_c (A : Option Addr) (c : Nat) (m : List S57) (w : World) (hR : Kd.C k57 w A m.length m) (hc : m.length ≤ c) (hp : PreP m) :
    Calls Try.prog 10 #[.slice A m.length c] w fun e w' => e = .returned (.tuple #[.string (if goodB m = true then strOfNums (putL m) else strOfNums []), .int .i64 (if goodB m = true then 0 else 110)]) ∧ Below w.heap.size w w' := by
  obtain ⟨K, hK⟩ := rcheck_f m hp.1
  have hck := Lib.hid (fun W hW => homographref07_Check.calls K A c m _ W hW hc (hK K (Nat.le_refl _)))
  have hRH := Lib.hid hR
  have hcH := Lib.hid hc
  by_cases hg : goodB m = true
  · have ho := hp.2 hg
    rw [if_pos hg] at hck
    rw [if_pos hg, if_pos hg]
    have hbl := body_len m hg ho
    have hby := Lib.hid (fun W hW => bytes_c A c m W hW hcH.out hg ho)
    have hbd := body_bd m ho
    have hsu := Lib.hid (rsum_f (body m) hbd (by omega) ((body m).length + 1) (by omega))
    have hfo := Lib.hid (rfour_f (sumL (body m)))
    have hz1 := so_size (body m)
    have hz2 := so_size (four (sumL (body m)))
    rw [four_len] at hz2
    have hpu := Lib.hid (show strOfNums (body m) ++ strOfNums (four (sumL (body m))) = strOfNums (putL m) by rw [← so_app]; rfl)
    clear hR hp hK ho hc hg hbd
    have hb0 : (9223372036854775807 < (strOfNums (body m)).size + (strOfNums (four (sumL (body m)))).size) = False := eq_false (by omega)
    clear hz1 hz2 hbl
    generalize strOfNums (four (sumL (body m))) = T1 at *
    generalize sumL (body m) = sm at *
    generalize strOfNums (body m) = T0 at *
    generalize (body m).length + 1 = kk at *
    go_enter Try.func10, Try.ntmps10
    go_wp2_with (first
      | (go_at_call 21; refine (hck.out _ hRH.out).mono ?_; rintro e w1 ⟨rfl, hdr⟩; obtain ⟨nd, rfl⟩ := hdr.out; have hb1 := Lib.hid (pw_below_drewN (Below.refl w.heap.size w) nd))
      | (go_at_call 25; refine (hby.out _ (Kd.C_below hRH.out (by repeat (first | exact hb1.out | apply below_drew1)))).mono ?_; rintro e w2 ⟨rfl, hb2⟩; have hb2H := Lib.hid (below_then hb1.out hb1.out.size hb2); clear hb2)
      | (go_at_call 16; refine (homographref11_Sum.calls _ T0 sm _ hsu.out).mono ?_; rintro e w3 ⟨rfl, hdr⟩; obtain ⟨nd2, rfl⟩ := hdr.out)
      | (go_at_call 17; refine (homographref11_Four.calls sm T1 _ hfo.out).mono ?_; rintro e w4 ⟨rfl, hb4⟩; have hb4H := Lib.hid hb4; clear hb4))
    go_ret2
    exact ⟨by rw [hpu.out]; rfl, below_then (below_then hb2H.out hb2H.out.size (by repeat (first | exact Below.refl _ _ | apply pw_below_drewN | apply below_drew1))) (by have := hb2H.out.size; simpa using this) hb4H.out⟩
  · rw [if_neg hg] at hck
    rw [if_neg hg, if_neg hg]
    clear hR hp hK
    go_enter Try.func10, Try.ntmps10
    go_wp2_with (go_at_call 21; refine (hck.out _ hRH.out).mono ?_; rintro e w1 ⟨rfl, hdr⟩; obtain ⟨nd, rfl⟩ := hdr.out; have hb1 := Lib.hid (pw_below_drewN (Below.refl w.heap.size w) nd))
    go_ret2
    exact ⟨rfl, hb1.out⟩
theorem P.homographref11_Put.calls (A : Option Addr) (c : Nat) (m : List S57) (r1 : ByteArray) (r2 : Int) (w : World) (hR : Kd.C k57 w A m.length m) (hc : m.length ≤ c) (h : P.homographref11_Put.f m = some (r1, r2)) :
    Calls Try.prog 10 #[.slice A m.length c] w fun e w' => e = .returned (.tuple #[.string r1, .int .i64 r2]) ∧ Below w.heap.size w w' := by
  unfold P.homographref11_Put.f at h
  split at h
  · rename_i hp
    injection h with h
    have h1 := rput_c A c m w hR hc hp
    by_cases hg : goodB m = true
    · rw [if_pos hg] at h
      rw [if_pos hg, if_pos hg] at h1
      injection h with e1 e2
      subst e1 e2
      exact h1
    · rw [if_neg hg] at h
      rw [if_neg hg, if_neg hg] at h1
      injection h with e1 e2
      subst e1 e2
      exact h1
  · cases h
end Go.Proofs.Ytokdggmobhnnpaa
