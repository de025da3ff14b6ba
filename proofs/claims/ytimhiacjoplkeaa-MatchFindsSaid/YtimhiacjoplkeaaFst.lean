/- match.First and Cut: walks. Own text. -/
import Derived.Test.YtimhiacjoplkeaaLng
namespace Go.Proofs.Ytimhiacjoplkeaa
open Go.RowKit Go.Proofs.Ytimhiacjoplkeaa.P Go.Proofs.YtimhiacjoplkeaaW.PrintWords Go.Proofs.YtimhiacjoplkeaaW.PrintLast
attribute [local go_sem] Go.Proofs.YtimhiacjoplkeaaW.PrintMore.max2_int Go.Proofs.YtimhiacjoplkeaaW.PrintMore.max_two
set_option linter.unusedVariables false
set_option linter.unusedSimpArgs false
/-- The first place from i on, of so many, from which there is an end. -/
def firstP (g : Nat → Int × Bool) : Nat → Nat → Int × Int × Bool
  | 0, _ => (0, 0, false)
  | k + 1, i => if (g i).2 = true then ((i : Int), (g i).1, true) else firstP g k (i + 1)
/-- A text cut: the next place is i, the piece begins at done. -/
def cutP (g : Nat → Int × Bool) (s : ByteArray) : Nat → Nat → Nat → List ByteArray
  | 0, _, done => [s.extract done s.size]
  | k + 1, i, done => if i < s.size then (if (g i).2 = false ∨ (g i).1 = (i : Int) then cutP g s k (i + 1) done else s.extract done i :: cutP g s k (g i).1.toNat (g i).1.toNat) else [s.extract done s.size]
theorem longP_le (s : ByteArray) (n : Nd) (i : Nat) (hi : i ≤ s.size) (h : (longP s n (i : Int)).2 = true) : ∃ j : Nat, (longP s n (i : Int)).1 = (j : Int) ∧ i ≤ j ∧ j ≤ s.size ∧ stp s n (dlt i) j = true := by
  unfold longP endsP at h ⊢
  rw [if_neg (fun h => by omega), Int.toNat_natCast] at h ⊢
  unfold lastP at h ⊢
  cases hl : (trues s.size (stp s n (dlt i))).getLast? with
  | none => rw [hl] at h; cases h
  | some j =>
    have hm := List.mem_of_getLast? hl
    obtain ⟨h1, h2⟩ := mem_trues.1 hm
    exact ⟨j, rfl, ((stp_lin s n).le i j h2).1, h1, h2⟩
set_option maxRecDepth 20000 in
set_option maxHeartbeats 1000000 in
theorem first_c (s : ByteArray) (hs : s.size ≤ 1000000) (n : Nd) (hwf : Wf n) (fr : Int) (w : World) (v : Value) (hn : IsN w n v) :
    Calls Try.prog 9 #[v, .string s, .int .i64 fr] w fun e w' => e = .returned (.tuple #[.int .i64 (firstP (fun i : Nat => longP s n (i : Int)) (s.size + 1 - (max fr 0).toNat) (max fr 0).toNat).1, .int .i64 (firstP (fun i : Nat => longP s n (i : Int)) (s.size + 1 - (max fr 0).toNat) (max fr 0).toNat).2.1, .bool (firstP (fun i : Nat => longP s n (i : Int)) (s.size + 1 - (max fr 0).toNat) (max fr 0).toNat).2.2]) ∧ Below w.heap.size w w' := by
  have hlong := Lib.hid (fun (i : Nat) w v (hn : IsN w n v) => longest_c s hs n hwf (i : Int) w v hn)
  have hnH := Lib.hid hn
  obtain ⟨A, c, rfl, hc, hlen, hK⟩ := hn
  have hN1 : Hid (∀ w1, Below w.heap.size w w1 → IsN w1 n (ndVal n (.slice A n.kids.length c))) := Lib.hid (fun w1 hb => hnH.out.below hb)
  clear hK hnH
  obtain ⟨f, hf⟩ : ∃ f : Nat, max fr 0 = (f : Int) := ⟨(max fr 0).toNat, by omega⟩
  rw [hf, Int.toNat_natCast]
  have hmx : (if fr < 0 then (0 : Int) else fr) = (f : Int) := by rw [← hf]; split <;> omega
  clear hf
  have hN2 : Hid (∀ w1, Below w.heap.size w w1 → cells8 w1 w.heap.size n.op n.s0 n.s1 n.s2 n.s3 n.mn n.mx (.slice A n.kids.length c) → True) := Lib.hid (fun _ _ _ => trivial)
  obtain ⟨G, hG⟩ : ∃ G : Nat → Int × Bool, G = fun i : Nat => longP s n (i : Int) := ⟨_, rfl⟩
  have hlong2 : Hid (∀ (i : Nat) w v (hn : IsN w n v), Calls Try.prog 20 #[v, .string s, .int .i64 (i : Int)] w fun e w' => e = .returned (.tuple #[.int .i64 (G i).1, .bool (G i).2]) ∧ Below w.heap.size w w') := Lib.hid (by rw [hG]; exact hlong.out)
  rw [← hG]
  clear hG hlong hN2
  show Calls Try.prog 9 #[.agg (boxC n.op n.s0 n.s1 n.s2 n.s3 n.mn n.mx (.slice A n.kids.length c)), .string s, .int .i64 fr] w _
  go_enter Try.func9, Try.ntmps9
  go_wp2
  have hX := Lib.hid (Blk.new w 28 (boxC n.op n.s0 n.s1 n.s2 n.s3 n.mn n.mx (.slice A n.kids.length c)))
  have hB := Lib.hid (below_alloc (Below.refl w.heap.size w) (.cells (boxC n.op n.s0 n.s1 n.s2 n.s3 n.mn n.mx (.slice A n.kids.length c)) 28))
  generalize w.alloc (.cells (boxC n.op n.s0 n.s1 n.s2 n.s3 n.mn n.mx (.slice A n.kids.length c)) 28) = W0 at *
  go_loopw [9] (fun ii wr => ∃ i : Nat, ii = .int .i64 i ∧ Hid (firstP G (s.size + 1 - f) f = firstP G (s.size + 1 - i) i) ∧ Hid (Blk wr w.heap.size 28 (boxC n.op n.s0 n.s1 n.s2 n.s3 n.mn n.mx (.slice A n.kids.length c))) ∧ Hid (Below w.heap.size w wr)) (fun ii _ => s.size + 1 - (intOf ii).toNat)
  case atStart => exact ⟨f, rfl, rfl, hX, hB⟩
  case round =>
    clear hX hB
    obtain ⟨i, rfl, hE, hX, hB⟩ := hrel
    by_cases hlt : i ≤ s.size
    · have hd : decide ((i : Int) ≤ (s.size : Int)) = true := decide_eq_true (by omega)
      have hs1 : s.size + 1 - i = (s.size + 1 - (i + 1)) + 1 := by omega
      have hsx := Lib.hid hs1
      clear hs1
      have d0 := hX.out.cell 0
      have d1 := hX.out.cell 1
      have d2 := hX.out.cell 2
      have d3 := hX.out.cell 3
      have d4 := hX.out.cell 4
      have d5 := hX.out.cell 5
      have d6 := hX.out.cell 6
      have d7 := hX.out.cell 7
      simp only [List.getElem?_toArray, List.getElem?_cons_zero, List.getElem?_cons_succ] at d0 d1 d2 d3 d4 d5 d6 d7
      have hcall := hlong2.out i wr _ (hN1.out wr hB.out)
      have hun : firstP G (s.size + 1 - i) i = if (G i).2 = true then ((i : Int), (G i).1, true) else firstP G (s.size + 1 - (i + 1)) (i + 1) := by rw [hsx.out]; rfl
      have hunH := Lib.hid (hE.out.trans hun)
      have hw : IntKind.i64.wrap ((i : Int) + 1) = ((i + 1 : Nat) : Int) := by rw [IntKind.wrap_i64]; omega
      clear hun hE
      generalize G i = q at *
      obtain ⟨a, b⟩ := q
      simp only at hunH hcall
      have hcallH := Lib.hid hcall
      clear hcall
      cases b with
      | true =>
        go_wp2_with (go_at_call 20; refine hcallH.out.mono ?_; rintro e w2 ⟨rfl, hB2⟩; have hB2H := Lib.hid (below_then hB.out hB.out.size hB2); clear hB2)
        refine bodyPost_ret (results_tmp3 rfl _ _ _) rfl ?_
        exact ⟨by rw [hunH.out]; rfl, hB2H.out⟩
      | false =>
        go_wp2_with (go_at_call 20; refine hcallH.out.mono ?_; rintro e w2 ⟨rfl, hB2⟩; have hB2H := Lib.hid (below_then hB.out hB.out.size hB2); have hX2 := Lib.hid (hX.out.below hB2 hX.out.lt); clear hB2)
        go_roundw
        case rel => exact ⟨i + 1, by go_num, Lib.hid (by rw [hunH.out]; rfl), hX2, hB2H⟩
        case measure => simp [intOf]; omega
    · have hd : decide ((i : Int) ≤ (s.size : Int)) = false := decide_eq_false (by omega)
      have hz : s.size + 1 - i = 0 := by omega
      have hEE := Lib.hid (show firstP G (s.size + 1 - f) f = (0, 0, false) by rw [hE.out, hz]; rfl)
      clear hE hz
      go_wp2
      refine bodyPost_ret (results_tmp3 rfl _ _ _) rfl ?_
      exact ⟨by rw [hEE.out]; rfl, hB.out⟩
end Go.Proofs.Ytimhiacjoplkeaa
