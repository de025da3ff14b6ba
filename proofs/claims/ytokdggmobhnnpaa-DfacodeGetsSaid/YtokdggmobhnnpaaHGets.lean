/- DfacodeGets: its walk. Own text. -/
import Derived.Test.YtokdggmobhnnpaaRGet
import Derived.Test.YtokdggmobhnnpaaP10
import Derived.Test.YtokdggmobhnnpaaTur
namespace Go.Proofs.Ytokdggmobhnnpaa
open Go.RowKit Go.Proofs.Ytokdggmobhnnpaa.P Go.Proofs.Ytokdggmobhnnpaa.Enc Go.Proofs.YtokdggmobhnnpaaW.PrintWords Go.Proofs.YtokdggmobhnnpaaW.PrintLast Go.Proofs.YtokdggmobhnnpaaW.PrintMore
set_option linter.unusedVariables false
set_option linter.unusedSimpArgs false

theorem getL_same (b : List Int) (hb : Bts b) : ∃ K, homographref07_Same.f K (getL b).1 (getL b).1 = some true := by
  rcases get_spec b hb with ⟨e, _⟩ | ⟨m, e, hg, ho, _⟩
  · rw [e]
    obtain ⟨K, hK⟩ := same_any [] (fun s hs => by simp at hs) (by simp)
    exact ⟨K, hK K (Nat.le_refl _)⟩
  · rw [e]
    have hga := good_arcs m hg ho
    have hl := good_len m hg
    obtain ⟨K, hK⟩ := same_any m (fun s hs => ⟨(ho.2 s hs).1, by have := (hga s hs).1; omega, fun a ha => ⟨((ho.2 s hs).2.2 a ha).1, ((ho.2 s hs).2.2 a ha).2.1⟩⟩) (by omega)
    exact ⟨K, hK K (Nat.le_refl _)⟩
set_option maxRecDepth 20000 in
set_option maxHeartbeats 2000000 in
theorem gets_c {w : World} {Ab : Option Addr} {cb : Nat} {b : List Int} {right : Bool} (hRb : (Kd.int .u8).C w Ab b.length b) (hcb : b.length ≤ cb) (hb : Bts b) :
    Calls Try.prog 4 #[.slice Ab b.length cb, .bool right] w fun e w' => e = .returned (.bool true) ∧ Below w.heap.size w w' := by
  have hawk := Lib.hid (awake_c w)
  by_cases h400 : (400 : Int) < (b.length : Int)
  · have hd : decide ((400 : Int) < (b.length : Int)) = true := decide_eq_true h400
    clear hRb hcb hb
    go_enter Try.func4, Try.ntmps4
    go_wp2_with (go_at_call 8; refine (hawk.out).mono ?_; rintro e w1 ⟨rfl, hb1⟩)
    go_ret
    exact ⟨rfl, hb1⟩
  have hd : decide ((400 : Int) < (b.length : Int)) = false := decide_eq_false h400
  have hcvb := Lib.hid (fun (w1 : World) (h : Below w.heap.size w w1) => convS (c := cb) (Kd.C_below hRb h))
  have hsum := Lib.hid (fun (w1 : World) => homographref11_Sum.calls (b.length + 1) (strOfNums b) (sumL b) w1 (rsum_f b hb (by omega) _ (by omega)))
  have hfour := Lib.hid (fun (w1 : World) => homographref11_Four.calls (sumL b) (strOfNums (four (sumL b))) w1 (rfour_f _))
  have hzs : (9223372036854775807 < (strOfNums b).size + (strOfNums (four (sumL b))).size) = False := eq_false (by rw [so_size, so_size, four_len]; omega)
  have hcc := Lib.hid (so_app b (four (sumL b)))
  cases right with
  | true =>
    obtain ⟨bl, hbl⟩ : ∃ bl, bl = b ++ four (sumL b) := ⟨_, rfl⟩
    have hbd : Bts bl := fun x hx => by
      rw [hbl] at hx
      rcases List.mem_append.1 hx with hx | hx
      · exact hb x hx
      · exact four_bd _ x hx
    have hll : bl.length ≤ 1000000 := by rw [hbl, List.length_append, four_len]; omega
    rw [← hbl] at hcc
    clear hbl hRb hcb hb h400
    generalize strOfNums (four (sumL b)) = T1 at *
    generalize sumL b = sm at *
    generalize strOfNums b = T0 at *
    go_enter Try.func4, Try.ntmps4
    go_upto_region 9 with (first
      | (go_at_call 8; refine (hawk.out).mono ?_; rintro e w1 ⟨rfl, hb1⟩; have hb1H := Lib.hid hb1; have hcv := hcvb.out _ hb1; clear hb1)
      | (go_at_call 16; refine (hsum.out _).mono ?_; rintro e w2 ⟨rfl, hdr⟩; obtain ⟨nd, rfl⟩ := hdr.out)
      | (go_at_call 17; refine (hfour.out _).mono ?_; rintro e w3 ⟨rfl, hb3⟩; have hb3H := Lib.hid (below_then (pw_below_drewN hb1H.out nd) (by have := hb1H.out.size; simpa using this) hb3); clear hb3))
    rw [← hcc.out]
    have hcv2 := Lib.run_convert_string_bytes (P := Try.prog) w3 9 25 5 (strOfNums bl) Try.underlying9 Try.underlying25 Try.underlying5
    rw [so_size] at hcv2
    have hCt := C_bytes w3 bl hbd (by omega)
    have hbw : Below w3.heap.size w3 (Lib.bytesWorld w3 5 (strOfNums bl)) := ⟨rfl, rfl, rfl, by rw [Lib.bytesWorld_size]; omega, fun i hi => Lib.bytesWorld_at_old w3 5 _ i hi⟩
    have hgc := Lib.hid (grownCap_ge w3 bl.length 0 5)
    have hb4H := Lib.hid (below_then hb3H.out hb3H.out.size hbw)
    have hCtH := Lib.hid hCt
    obtain ⟨kg, hkg⟩ := rget_f bl hbd hll
    obtain ⟨ks, hks⟩ := getL_same bl hbd
    obtain ⟨ms, er, hge⟩ : ∃ ms er, getL bl = (ms, er) := ⟨_, _, rfl⟩
    rw [hge] at hkg hks
    have hget := Lib.hid (fun (W : World) (c : Nat) (hC : (Kd.int .u8).C W (some ⟨w3.heap.size, 0, none⟩) bl.length bl) (hc : bl.length ≤ c) => P.dfacode_Get.calls (some ⟨w3.heap.size, 0, none⟩) c bl ms er W hC hc (by rw [get_f bl hbd (by omega), hge]))
    have hrget := Lib.hid (fun (W : World) => homographref11_Get.calls kg (strOfNums bl) ms er W hkg)
    have hsame := Lib.hid (fun (W : World) (A0 : Option Addr) (c0 : Nat) (A1 : Option Addr) (c1 : Nat) (h0 : Kd.C k57 W A0 ms.length ms) (h1 : ms.length ≤ c0) (h2 : Kd.C k57 W A1 ms.length ms) (h3 : ms.length ≤ c1) => homographref07_Same.calls ks A0 c0 ms A1 c1 ms true W h0 h1 h2 h3 hks)
    clear hCt hbw hbd hll hge hkg hks
    generalize strOfNums bl = TB at *
    go_wp2_with (first
      | (go_at_call 18; refine (hget.out _ _ hCtH.out hgc.out).mono ?_; rintro e w6 ⟨v6, rfl, hS6, hb6⟩; obtain ⟨A6, c6, e6, hl6, hC6⟩ := Kd.R_reads (Kd.S_R hS6); subst e6; have hC6H := Lib.hid hC6; have hl6H := Lib.hid hl6; have hb6H := Lib.hid (below_then hb4H.out hb4H.out.size hb6); clear hS6 hb6 hC6 hl6 hcv2)
      | (go_at_call 19; refine (hrget.out _).mono ?_; rintro e w7 ⟨v7, rfl, hS7, hb7⟩; obtain ⟨A7, c7, e7, hl7, hC7⟩ := Kd.R_reads (Kd.S_R hS7); subst e7; have hC7H := Lib.hid hC7; have hl7H := Lib.hid hl7; have hb7H := Lib.hid (below_then hb6H.out hb6H.out.size hb7); have hC8H := Lib.hid (Kd.C_below hC6H.out hb7); clear hS7 hb7 hC7 hl7)
      | (go_at_call 20; refine (hsame.out _ A6 c6 A7 c7 (by repeat (first | exact hC8H.out | apply Kd.C_drew)) hl6H.out (by repeat (first | exact hC7H.out | apply Kd.C_drew)) hl7H.out).mono ?_; rintro e w8 ⟨rfl, hdr8⟩; obtain ⟨nd8, rfl⟩ := hdr8.out))
    go_ret
    exact ⟨rfl, by repeat (first | exact hb7H.out | apply pw_below_drewN | apply below_drew1)⟩
  | false =>
    have hll : b.length ≤ 1000000 := by omega
    have hbd := hb
    clear hRb hcb hb h400 hzs hcc hsum hfour
    go_enter Try.func4, Try.ntmps4
    go_upto_region 9 with (go_at_call 8; refine (hawk.out).mono ?_; rintro e w1 ⟨rfl, hb1⟩; have hb1H := Lib.hid hb1; have hcv := hcvb.out _ hb1; clear hb1)
    clear hcv
    have hcv2 := Lib.run_convert_string_bytes (P := Try.prog) w1 9 25 5 (strOfNums b) Try.underlying9 Try.underlying25 Try.underlying5
    rw [so_size] at hcv2
    have hCt := C_bytes w1 b hbd (by omega)
    have hbw : Below w1.heap.size w1 (Lib.bytesWorld w1 5 (strOfNums b)) := ⟨rfl, rfl, rfl, by rw [Lib.bytesWorld_size]; omega, fun i hi => Lib.bytesWorld_at_old w1 5 _ i hi⟩
    have hgc := Lib.hid (grownCap_ge w1 b.length 0 5)
    have hb4H := Lib.hid (below_then hb1H.out hb1H.out.size hbw)
    have hCtH := Lib.hid hCt
    obtain ⟨kg, hkg⟩ := rget_f b hbd hll
    obtain ⟨ks, hks⟩ := getL_same b hbd
    obtain ⟨ms, er, hge⟩ : ∃ ms er, getL b = (ms, er) := ⟨_, _, rfl⟩
    rw [hge] at hkg hks
    have hget := Lib.hid (fun (W : World) (c : Nat) (hC : (Kd.int .u8).C W (some ⟨w1.heap.size, 0, none⟩) b.length b) (hc : b.length ≤ c) => P.dfacode_Get.calls (some ⟨w1.heap.size, 0, none⟩) c b ms er W hC hc (by rw [get_f b hbd (by omega), hge]))
    have hrget := Lib.hid (fun (W : World) => homographref11_Get.calls kg (strOfNums b) ms er W hkg)
    have hsame := Lib.hid (fun (W : World) (A0 : Option Addr) (c0 : Nat) (A1 : Option Addr) (c1 : Nat) (h0 : Kd.C k57 W A0 ms.length ms) (h1 : ms.length ≤ c0) (h2 : Kd.C k57 W A1 ms.length ms) (h3 : ms.length ≤ c1) => homographref07_Same.calls ks A0 c0 ms A1 c1 ms true W h0 h1 h2 h3 hks)
    clear hCt hbw hbd hll hge hkg hks
    generalize strOfNums b = TB at *
    go_wp2_with (first
      | (go_at_call 18; refine (hget.out _ _ hCtH.out hgc.out).mono ?_; rintro e w6 ⟨v6, rfl, hS6, hb6⟩; obtain ⟨A6, c6, e6, hl6, hC6⟩ := Kd.R_reads (Kd.S_R hS6); subst e6; have hC6H := Lib.hid hC6; have hl6H := Lib.hid hl6; have hb6H := Lib.hid (below_then hb4H.out hb4H.out.size hb6); clear hS6 hb6 hC6 hl6 hcv2)
      | (go_at_call 19; refine (hrget.out _).mono ?_; rintro e w7 ⟨v7, rfl, hS7, hb7⟩; obtain ⟨A7, c7, e7, hl7, hC7⟩ := Kd.R_reads (Kd.S_R hS7); subst e7; have hC7H := Lib.hid hC7; have hl7H := Lib.hid hl7; have hb7H := Lib.hid (below_then hb6H.out hb6H.out.size hb7); have hC8H := Lib.hid (Kd.C_below hC6H.out hb7); clear hS7 hb7 hC7 hl7)
      | (go_at_call 20; refine (hsame.out _ A6 c6 A7 c7 (by repeat (first | exact hC8H.out | apply Kd.C_drew)) hl6H.out (by repeat (first | exact hC7H.out | apply Kd.C_drew)) hl7H.out).mono ?_; rintro e w8 ⟨rfl, hdr8⟩; obtain ⟨nd8, rfl⟩ := hdr8.out))
    go_ret
    exact ⟨rfl, by repeat (first | exact hb7H.out | apply pw_below_drewN | apply below_drew1)⟩
end Go.Proofs.Ytokdggmobhnnpaa
