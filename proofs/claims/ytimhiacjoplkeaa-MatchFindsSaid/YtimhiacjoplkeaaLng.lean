/- match.Longest and Whole: walks. Own text. -/
import Derived.Test.YtimhiacjoplkeaaCol
namespace Go.Proofs.Ytimhiacjoplkeaa
open Go.RowKit Go.Proofs.Ytimhiacjoplkeaa.P Go.Proofs.YtimhiacjoplkeaaW.PrintWords Go.Proofs.YtimhiacjoplkeaaW.PrintLast
set_option linter.unusedVariables false
set_option linter.unusedSimpArgs false
/-- The last of places. -/
def lastP (l : List Nat) : Int × Bool := match l.getLast? with
  | none => (0, false)
  | some j => ((j : Int), true)
def longP (s : ByteArray) (n : Nd) (fr : Int) : Int × Bool := lastP (endsP s n fr)
theorem lastP_nil : lastP [] = (0, false) := rfl
theorem lastP_at (l : List Nat) (h : l ≠ []) : lastP l = (((l.getD (l.length - 1) 0 : Nat) : Int), true) := by
  have h2 := List.length_pos_iff.2 h
  unfold lastP
  rw [List.getLast?_eq_getElem?, List.getElem?_eq_getElem (by omega), List.getD_eq_getElem?_getD, List.getElem?_eq_getElem (by omega)]
  rfl
set_option maxRecDepth 20000 in
theorem longest_c (s : ByteArray) (hs : s.size ≤ 1000000) (n : Nd) (hwf : Wf n) (fr : Int) (w : World) (v : Value) (hn : IsN w n v) :
    Calls Try.prog 20 #[v, .string s, .int .i64 fr] w fun e w' => e = .returned (.tuple #[.int .i64 (longP s n fr).1, .bool (longP s n fr).2]) ∧ Below w.heap.size w w' := by
  have hends := Lib.hid (fun w v (hn : IsN w n v) => ends_c s hs n hwf fr w v hn)
  have hnH := Lib.hid hn
  obtain ⟨A, c, rfl, hc, hlen, hK⟩ := hn
  unfold longP
  generalize endsP s n fr = l at *
  have hN1 : Hid (∀ w1, Below w.heap.size w w1 → IsN w1 n (ndVal n (.slice A n.kids.length c))) := Lib.hid (fun w1 hb => hnH.out.below hb)
  clear hK hnH
  by_cases hl : l = []
  · subst hl
    rw [lastP_nil]
    go_enter Try.func20, Try.ntmps20
    go_wp2_with (go_at_call 22; refine (hends.out _ _ (hN1.out _ (below_alloc (Below.refl _ _) _))).mono ?_; rintro e w1 ⟨v1, rfl, hR, hB⟩; obtain ⟨A1, c1, e1, _, hC1⟩ := Kd.R_reads hR; subst e1; have hBH := Lib.hid (below_then (below_alloc (Below.refl w.heap.size w) _) (by simp) hB); clear hR hB hC1)
    go_ret2
    exact ⟨rfl, hBH.out⟩
  · rw [lastP_at l hl]
    have hp := List.length_pos_iff.2 hl
    obtain ⟨m, hm⟩ : ∃ m, l.length = m + 1 := ⟨l.length - 1, by omega⟩
    have him : (intsOf l).length = m + 1 := by unfold intsOf; rw [List.length_map, hm]
    rw [hm, Nat.add_sub_cancel]
    have hg : Hid (rd (intsOf l) (m : Int) = ((l.getD m 0 : Nat) : Int)) := Lib.hid (by
      unfold rd intsOf
      rw [Int.toNat_natCast, List.getD_eq_getElem?_getD, List.getElem?_map, List.getD_eq_getElem?_getD, List.getElem?_eq_getElem (by omega)]
      rfl)
    have hml : Hid (m < 9223372036854775807) ∨ True := .inr trivial
    generalize l.getD m 0 = z at *
    generalize intsOf l = li at *
    clear hl hp hm
    go_enter Try.func20, Try.ntmps20
    go_upto_region 2 with (go_at_call 22; refine (hends.out _ _ (hN1.out _ (below_alloc (Below.refl _ _) _))).mono ?_; rintro e w1 ⟨v1, rfl, hR, hB⟩; obtain ⟨A1, c1, e1, _, hC1⟩ := Kd.R_reads hR; subst e1; have hBH := Lib.hid (below_then (below_alloc (Below.refl w.heap.size w) _) (by simp) hB); have hC1H := Lib.hid hC1; clear hR hB hC1)
    rw [him] at *
    have hmx := hC1H.out.2.1
    obtain ⟨ad, hA, hcell⟩ := Kd.at_int hC1H.out (m : Int) (by omega) (by omega)
    subst hA
    rw [hg.out, Int.toNat_natCast] at hcell
    have hd : ((((m + 1 : Nat) : Int)) == 0) = false := beq_eq_false_iff_ne.2 (by omega)
    have hw : IntKind.i64.wrap (((m + 1 : Nat) : Int) - 1) = (m : Int) := by rw [IntKind.wrap_i64]; omega
    have hi0 : (0 : Int) ≤ (m : Int) := by omega
    have hi1 : (m : Int) < ((m + 1 : Nat) : Int) := by omega
    clear hC1H
    go_wp2
    go_ret2
    exact ⟨rfl, hBH.out⟩
/-- Does it match the whole of the text? -/
def wholeP (s : ByteArray) (n : Nd) : Bool := (longP s n 0).2 && ((longP s n 0).1 == (s.size : Int))
set_option maxRecDepth 20000 in
theorem whole_c (s : ByteArray) (hs : s.size ≤ 1000000) (n : Nd) (hwf : Wf n) (w : World) (v : Value) (hn : IsN w n v) :
    Calls Try.prog 14 #[v, .string s] w fun e w' => e = .returned (.bool (wholeP s n)) ∧ Below w.heap.size w w' := by
  have hlong := Lib.hid (fun w v (hn : IsN w n v) => longest_c s hs n hwf 0 w v hn)
  have hnH := Lib.hid hn
  obtain ⟨A, c, rfl, hc, hlen, hK⟩ := hn
  have hN1 : Hid (∀ w1, Below w.heap.size w w1 → IsN w1 n (ndVal n (.slice A n.kids.length c))) := Lib.hid (fun w1 hb => hnH.out.below hb)
  unfold wholeP
  generalize longP s n 0 = q at *
  obtain ⟨a, b⟩ := q
  simp only at hlong ⊢
  clear hK hnH
  cases b with
  | false =>
    go_enter Try.func14, Try.ntmps14
    go_wp2_with (go_at_call 20; refine (hlong.out _ _ (hN1.out _ (below_alloc (Below.refl _ _) _))).mono ?_; rintro e w1 ⟨rfl, hB⟩; have hBH := Lib.hid (below_then (below_alloc (Below.refl w.heap.size w) _) (by simp) hB); clear hB)
    go_ret
    exact ⟨rfl, hBH.out⟩
  | true =>
    go_enter Try.func14, Try.ntmps14
    go_wp2_with (go_at_call 20; refine (hlong.out _ _ (hN1.out _ (below_alloc (Below.refl _ _) _))).mono ?_; rintro e w1 ⟨rfl, hB⟩; have hBH := Lib.hid (below_then (below_alloc (Below.refl w.heap.size w) _) (by simp) hB); clear hB)
    go_ret
    exact ⟨by first | rfl | simp, hBH.out⟩
end Go.Proofs.Ytimhiacjoplkeaa
