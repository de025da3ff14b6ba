/- DfacodeTurned: its walk. Own text. -/
import Derived.Test.YtokdggmobhnnpaaTur
namespace Go.Proofs.Ytokdggmobhnnpaa
open Go.RowKit Go.Proofs.Ytokdggmobhnnpaa.P Go.Proofs.Ytokdggmobhnnpaa.Enc Go.Proofs.YtokdggmobhnnpaaW.PrintWords Go.Proofs.YtokdggmobhnnpaaW.PrintLast Go.Proofs.YtokdggmobhnnpaaW.PrintMore
set_option linter.unusedVariables false
set_option linter.unusedSimpArgs false

theorem bytes_frozen (w : World) (xs : List Int) (k : Nat) (hk : k < xs.length) : (Lib.bytesWorld w 5 (strOfNums xs)).frozen? ⟨w.heap.size, k, none⟩ = false := by
  have h : (strOfNums xs).size ≤ (Lib.bytesCells w 5 (strOfNums xs)).size := by
    rw [Lib.bytesCells, Array.size_append, Array.size_map]; exact Nat.le_add_right _ _
  rw [strOf_size] at h
  generalize hc : Lib.bytesCells w 5 (strOfNums xs) = cs at h
  simp only [World.frozen?, Lib.bytesWorld_at_new, hc]
  simp; omega
theorem rcheck_c {w : World} {A : Option Addr} {c : Nat} {m : List S57} (hR : Kd.C k57 w A m.length m) (hc : m.length ≤ c) (hB : ByM m) :
    Calls Try.prog 21 #[.slice A m.length c] w fun e w' => e = .returned (.int .i64 (if goodB m = true then 0 else 110)) ∧ Below w.heap.size w w' := by
  obtain ⟨K, hK⟩ := rcheck_f m hB
  refine (homographref07_Check.calls K A c m _ w hR hc (hK K (Nat.le_refl _))).mono fun e w' h => ⟨h.1, ?_⟩
  obtain ⟨nd, rfl⟩ := h.2.out
  exact pw_below_drewN (Below.refl _ _) nd
set_option maxRecDepth 20000 in
set_option maxHeartbeats 1000000 in
theorem turned_c {w : World} {A : Option Addr} {c : Nat} {m : List S57} {a b : Int} (hR : Kd.C k57 w A m.length m) (hc : m.length ≤ c) (hS : ∀ s ∈ m, StB s) (hb : 0 ≤ b ∧ b ≤ 255) :
    Calls Try.prog 6 #[.slice A m.length c, .int .i64 a, .int .u8 b] w fun e w' => e = .returned (.bool true) ∧ Below w.heap.size w w' := by
  have hRH := Lib.hid hR
  have hlen : m.length ≤ 9223372036854775807 := hR.2.1
  have hawk := Lib.hid (awake_c w)
  have hck := Lib.hid (fun (w1 : World) (h : Below w.heap.size w w1) => rcheck_c (Kd.C_below hR h) hc (byM_of m hS))
  have hcH := Lib.hid hc
  have hSH := Lib.hid hS
  clear hR hS hc
  by_cases h20 : (20 : Int) < (m.length : Int)
  · have hd : decide ((20 : Int) < (m.length : Int)) = true := decide_eq_true h20
    go_enter Try.func6, Try.ntmps6
    go_wp2_with (go_at_call 8; refine (hawk.out).mono ?_; rintro e w1 ⟨rfl, hb1⟩)
    go_ret
    exact ⟨rfl, hb1⟩
  have hd : decide ((20 : Int) < (m.length : Int)) = false := decide_eq_false h20
  by_cases hg : goodB m = true
  · rw [if_pos hg] at hck
    have ho := okM_of m hSH.out hg
    have hput : P.dfacode_Put.f m = some (putL m, 0) := by
      unfold P.dfacode_Put.f; rw [if_pos (preP_of m hSH.out), if_pos hg]
    have hbl := body_len m hg ho
    have hpl : (putL m).length = (body m).length + 4 := by unfold putL; rw [List.length_append, four_len]
    have hbd := putL_bd m ho
    have hgt := Lib.hid (fun k hk c hc hne => get_turned m hg ho k hk c hc hne)
    have hgcut := Lib.hid (fun k hk => get_cut m hg ho k hk)
    have hputc := Lib.hid (fun (w1 : World) (h : Below w.heap.size w w1) => P.dfacode_Put.calls A c m (putL m) 0 w1 (Kd.C_below hRH.out h) hcH.out hput)
    obtain ⟨p, hp, hp2⟩ := and_bd a
    have hbdH := Lib.hid hbd
    have hL1 : 0 < (putL m).length := by omega
    have hL2 : (putL m).length ≤ 20000004 := by omega
    clear hbl hpl hput hbd hg
    generalize putL m = L at *
    go_enter Try.func6, Try.ntmps6
    go_upto_region 5 with (first
      | (go_at_call 8; refine (hawk.out).mono ?_; rintro e w1 ⟨rfl, hb1⟩; have hb1H := Lib.hid hb1; clear hb1)
      | (go_at_call 21; refine (hck.out _ hb1H.out).mono ?_; rintro e w2 ⟨rfl, hb2⟩; have hb2H := Lib.hid (below_then hb1H.out hb1H.out.size hb2); clear hb2 hb1H))
    go_upto_region 7 with (go_at_call 9; refine (hputc.out _ hb2H.out).mono ?_; rintro e w3 ⟨v3, rfl, ho3, hb3⟩; obtain ⟨A3, c3, e3, hl3, hC3⟩ := Kd.R_reads ho3; subst e3; have hC3H := Lib.hid hC3; have hb3H := Lib.hid (below_then hb2H.out hb2H.out.size hb3); have hl3H := Lib.hid hl3; clear hb3 ho3 hC3 hb2H)
    obtain ⟨ad3, hA3, hc3x⟩ := Kd.at_int hC3H.out 0 (by omega) (by omega)
    subst hA3
    have hlt3 := World.block_lt_of_cell? w3 _ hc3x
    rw [add_blk] at hlt3
    clear hc3x
    have hLne : ((L.length : Int) == 0) = false := beq_eq_false_iff_ne.2 (by omega)
    obtain ⟨k, hk, hkl⟩ : ∃ k : Nat, (p : Int) % (L.length : Int) = (k : Int) ∧ k < L.length := ⟨p % L.length, by omega, Nat.mod_lt _ hL1⟩
    have hcv1 := conv_c (c := c3) hC3H.out
    have hcv2 := Lib.run_convert_string_bytes (P := Try.prog) w3 9 25 5 (strOfNums L) Try.underlying9 Try.underlying25 Try.underlying5
    rw [strOf_size] at hcv2
    have hCt := C_bytes w3 L hbdH.out (by omega)
    have hft := bytes_frozen w3 L k hkl
    have hbw : Below w3.heap.size w3 (Lib.bytesWorld w3 5 (strOfNums L)) := ⟨rfl, rfl, rfl, by rw [Lib.bytesWorld_size]; omega, fun i hi => Lib.bytesWorld_at_old w3 5 _ i hi⟩
    have hsz4 := Lib.hid (Lib.bytesWorld_size w3 5 (strOfNums L))
    have hgc := grownCap_ge w3 L.length 0 5
    have hC4H := Lib.hid (Kd.C_below hC3H.out hbw)
    have hb4H := Lib.hid (below_then hb3H.out hb3H.out.size hbw)
    have hCtH := Lib.hid hCt
    have hftH := Lib.hid hft
    clear hCt hft hbw
    go_upto_region 9 with (fail)
    clear hcv2
    generalize grownCap w3 L.length 0 5 = c4 at *
    generalize Lib.bytesWorld w3 5 (strOfNums L) = w4 at *
    have hft := hftH.out
    obtain ⟨adt, hadt, hct⟩ := Kd.at_int hCtH.out (k : Int) (by omega) (by omega)
    injection hadt with hadt
    subst hadt
    have ea : ∀ j, (⟨w3.heap.size, 0, none⟩ : Addr).add j = ⟨w3.heap.size, j, none⟩ := fun j => by
      unfold Addr.add; split
      · simp_all
      · simp
    rw [Int.toNat_natCast, ea] at hct
    have hrd : rd L (k : Int) = L.getD k 0 := rfl
    rw [hrd] at hct
    have hxb : 0 ≤ L.getD k 0 ∧ L.getD k 0 ≤ 255 := by
      rw [List.getD_eq_getElem?_getD, List.getElem?_eq_getElem hkl]; exact hbdH.out _ (List.getElem_mem hkl)
    have hw1 : IntKind.u8.wrap (b % 255 + 1) = b % 255 + 1 := by rw [IntKind.wrap_u8]; omega
    obtain ⟨hcb, hcn⟩ := xor_other (L.getD k 0) (b % 255 + 1) hxb (by omega)
    have hg1 := Lib.hid (hgt.out k hkl _ hcb hcn)
    have hg2 := Lib.hid (hgcut.out k hkl)
    have hbs : Bts (L.set k (Go.bits .xor .u8 (L.getD k 0) (b % 255 + 1))) := fun x hx => by
      rcases List.mem_or_eq_of_mem_set hx with h | h
      · exact hbdH.out x h
      · subst h; exact hcb
    have hbsH := Lib.hid hbs
    clear ea hrd hxb hcb hcn hgt hgcut hbs
    generalize L.getD k 0 = x at *
    generalize hz : Go.bits .xor .u8 x (b % 255 + 1) = z at *
    have hget1 := Lib.hid (fun W (hC : (Kd.int .u8).C W (some ⟨w3.heap.size, 0, none⟩) (L.set k z).length (L.set k z)) => P.dfacode_Get.calls (some ⟨w3.heap.size, 0, none⟩) c4 (L.set k z) [] 110 W hC (by rw [List.length_set]; exact hgc) (by rw [get_f _ hbsH.out (by rw [List.length_set]; omega), hg1.out]))
    have htl : (L.take k).length = k := by rw [List.length_take]; omega
    have hget2 := Lib.hid (fun W (hC : (Kd.int .u8).C W (some ad3) (L.take k).length (L.take k)) => P.dfacode_Get.calls (some ad3) c3 (L.take k) [] 110 W hC (by rw [htl]; omega) (by rw [get_f _ (fun x hx => hbdH.out x (List.mem_of_mem_take hx)) (by rw [htl]; omega), hg2.out]))
    rw [htl] at hget2
    have hset := Lib.hid (C_set hCtH.out k z hkl)
    have hkeep := Lib.hid (C_keep (w' := w4.setCell ⟨w3.heap.size, k, none⟩ (.int .u8 z)) hC4H.out (Below.heap_setCell w4 ⟨w3.heap.size, k, none⟩ _ ad3.block (fun e => by simp only at e; omega)))
    have hb5H := Lib.hid (hb4H.out.setCell (p := ⟨w3.heap.size, k, none⟩) hb3H.out.size (.int .u8 z))
    rw [List.length_set] at hget1 hset
    clear htl
    go_upto_region 10 with (fail)
    have hsz5 : w.heap.size ≤ (w4.setCell ⟨w3.heap.size, k, none⟩ (.int .u8 z)).heap.size := hb5H.out.size
    generalize w4.setCell ⟨w3.heap.size, k, none⟩ (.int .u8 z) = w5 at *
    clear hct hft hsz4
    go_wp2_with (first
      | (go_at_call 18; (refine (hget1.out _ hset.out).mono ?_; rintro e w6 ⟨v6, rfl, hS6, hb6⟩; obtain ⟨A6, c6, e6, _⟩ := Kd.R_reads (Kd.S_R hS6); subst e6; have hC6H := Lib.hid (Kd.C_below hkeep.out hb6); have hb6H := Lib.hid (below_then hb5H.out hsz5 hb6); clear hS6 hb6 hset))
      | (go_at_call 18; (refine (hget2.out _ (C_take hC6H.out k (Nat.le_of_lt hkl))).mono ?_; rintro e w7 ⟨v7, rfl, hS7, hb7⟩; have hb7H := Lib.hid (below_then hb6H.out hb6H.out.size hb7); clear hS7 hb7)))
    go_ret
    exact ⟨rfl, hb7H.out⟩
  · rw [if_neg hg] at hck
    go_enter Try.func6, Try.ntmps6
    go_wp2_with (first
      | (go_at_call 8; refine (hawk.out).mono ?_; rintro e w1 ⟨rfl, hb1⟩; have hb1H := Lib.hid hb1; clear hb1)
      | (go_at_call 21; refine (hck.out _ hb1H.out).mono ?_; rintro e w2 ⟨rfl, hb2⟩; have hb2H := Lib.hid (below_then hb1H.out hb1H.out.size hb2); clear hb2))
    go_ret
    exact ⟨rfl, hb2H.out⟩
end Go.Proofs.Ytokdggmobhnnpaa
