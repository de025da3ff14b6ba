/- awake: its walk. Own text. -/
import Derived.Test.YtimhiacjoplkeaaLit
import Derived.Test.YtimhiacjoplkeaaCut
import Derived.Test.YtimhiacjoplkeaaP1
namespace Go.Proofs.Ytimhiacjoplkeaa
open Go.RowKit Go.Proofs.Ytimhiacjoplkeaa.P Go.Proofs.YtimhiacjoplkeaaW.PrintWords Go.Proofs.YtimhiacjoplkeaaW.PrintLast
set_option linter.unusedVariables false
set_option linter.unusedSimpArgs false
def aN : Nd := .mk 3 0 0 0 0 0 (-1) [litN ⟨#[97]⟩]
theorem wfs_all : ∀ ks : List Nd, (∀ k ∈ ks, Wf k) → Wfs ks
  | [], _ => by unfold Wfs; trivial
  | k :: ks, h => by unfold Wfs; exact ⟨h k (by simp), wfs_all ks (fun x hx => h x (by simp [hx]))⟩
theorem wf_ch (b : Nat) : Wf (chN b) := by unfold chN setN Wf; exact ⟨fun h => by omega, by omega, by omega, by unfold Wfs; trivial⟩
theorem wf_lit (s : ByteArray) : Wf (litN s) := by
  unfold litN Wf
  refine ⟨fun h => by omega, by omega, by omega, wfs_all _ (fun k hk => ?_)⟩
  unfold litL at hk
  obtain ⟨i, _, rfl⟩ := List.mem_map.1 hk
  exact wf_ch _
theorem wf_aN : Wf aN := by
  unfold aN Wf
  exact ⟨fun _ => by simp, by omega, by omega, wfs_all _ (fun k hk => by rw [List.mem_singleton.1 hk]; exact wf_lit _)⟩
theorem a1 : endsP ⟨#[97, 97, 98]⟩ aN 0 = [0, 1, 2] := by kernel_rfl
theorem a2 : wholeP ⟨#[97, 97]⟩ aN = true := by kernel_rfl
theorem a3 : wholeP ⟨#[97, 98]⟩ aN = false := by kernel_rfl
theorem a4 : longP ⟨#[97, 97, 98]⟩ aN 0 = (2, true) := by kernel_rfl
theorem a5 : cutOf ⟨#[120, 97, 97, 121]⟩ aN = [⟨#[120]⟩, ⟨#[121]⟩] := by kernel_rfl
theorem a6 : (firstP (fun i : Nat => longP ⟨#[97, 97, 98]⟩ (litN ⟨#[98]⟩) (i : Int)) ((⟨#[97, 97, 98]⟩ : ByteArray).size + 1 - (max (0:Int) 0).toNat) (max (0:Int) 0).toNat) = (2, 3, true) := by kernel_rfl
theorem same_012 : homographref04_Same.f 10 [0, 1, 2] [0, 1, 2] = some true := by kernel_rfl
theorem texts_xy : homographref04_Texts.f 10 [⟨#[120]⟩, ⟨#[121]⟩] [⟨#[120]⟩, ⟨#[121]⟩] = some true := by kernel_rfl
theorem C_012 (w : World) : (Kd.int .i64).C (w.alloc (.cells #[.int .i64 0, .int .i64 1, .int .i64 2] 3)) (some ⟨w.heap.size, 0, none⟩) 3 [0, 1, 2] := by
  refine Kd.C_of_reads (d := (0 : Int)) ⟨rfl, by decide, fun _ => ⟨_, rfl, fun j hj => ?_⟩⟩
  rw [add_off0, cell_of_cells (heap_alloc_new w _)]
  match j, hj with
  | 0, _ => rfl
  | 1, _ => rfl
  | 2, _ => rfl
theorem C_xy (w : World) : Kd.string.C (w.alloc (.cells #[.string ⟨#[120]⟩, .string ⟨#[121]⟩] 9)) (some ⟨w.heap.size, 0, none⟩) 2 [⟨#[120]⟩, ⟨#[121]⟩] := by
  refine Kd.C_of_reads (d := (⟨#[]⟩ : ByteArray)) ⟨rfl, by decide, fun _ => ⟨_, rfl, fun j hj => ?_⟩⟩
  rw [add_off0, cell_of_cells (heap_alloc_new w _)]
  match j, hj with
  | 0, _ => rfl
  | 1, _ => rfl
/-- What awake asks of its pattern. -/
structure AwN (n : Nd) : Prop where
  ends : ∀ w v, IsN w n v → Calls Try.prog 22 #[v, .string ⟨#[97, 97, 98]⟩, .int .i64 0] w fun e w' => ∃ A c, e = .returned (.slice A 3 c) ∧ 3 ≤ c ∧ (Kd.int .i64).C w' A 3 [0, 1, 2] ∧ Below w.heap.size w w'
  aa : ∀ w v, IsN w n v → Calls Try.prog 14 #[v, .string ⟨#[97, 97]⟩] w fun e w' => e = .returned (.bool true) ∧ Below w.heap.size w w'
  ab : ∀ w v, IsN w n v → Calls Try.prog 14 #[v, .string ⟨#[97, 98]⟩] w fun e w' => e = .returned (.bool false) ∧ Below w.heap.size w w'
  long : ∀ w v, IsN w n v → Calls Try.prog 20 #[v, .string ⟨#[97, 97, 98]⟩, .int .i64 0] w fun e w' => e = .returned (.tuple #[.int .i64 2, .bool true]) ∧ Below w.heap.size w w'
  cut : ∀ w v, IsN w n v → Calls Try.prog 12 #[v, .string ⟨#[120, 97, 97, 121]⟩] w fun e w' => ∃ A c, e = .returned (.slice A 2 c) ∧ 2 ≤ c ∧ Kd.string.C w' A 2 [⟨#[120]⟩, ⟨#[121]⟩] ∧ Below w.heap.size w w'
theorem awN : AwN aN where
  ends w v h := by
    refine (ends_c ⟨#[97, 97, 98]⟩ (by decide) aN wf_aN 0 w v h).mono ?_
    rw [a1]
    rintro e w' ⟨v', rfl, hR, hB⟩
    obtain ⟨A, c, rfl, hc, hC⟩ := Kd.R_reads hR
    exact ⟨A, c, rfl, hc, hC, hB⟩
  aa w v h := by
    have := whole_c ⟨#[97, 97]⟩ (by decide) aN wf_aN w v h
    rw [a2] at this
    exact this
  ab w v h := by
    have := whole_c ⟨#[97, 98]⟩ (by decide) aN wf_aN w v h
    rw [a3] at this
    exact this
  long w v h := by
    have := longest_c ⟨#[97, 97, 98]⟩ (by decide) aN wf_aN 0 w v h
    rw [a4] at this
    exact this
  cut w v h := by
    refine (cut_c ⟨#[120, 97, 97, 121]⟩ (by decide) aN wf_aN w v h).mono ?_
    rw [a5]
    rintro e w' ⟨v', rfl, hR, hB⟩
    obtain ⟨A, c, rfl, hc, hC⟩ := Kd.R_reads hR
    exact ⟨A, c, rfl, hc, hC, hB⟩
theorem first_b (w : World) (v : Value) (h : IsN w (litN ⟨#[98]⟩) v) : Calls Try.prog 9 #[v, .string ⟨#[97, 97, 98]⟩, .int .i64 0] w fun e w' => e = .returned (.tuple #[.int .i64 2, .int .i64 3, .bool true]) ∧ Below w.heap.size w w' := by
  have := first_c ⟨#[97, 97, 98]⟩ (by decide) (litN ⟨#[98]⟩) (wf_lit _) 0 w v h
  rw [a6] at this
  exact this
theorem rep_a (v : Value) (w : World) (h : IsN w (litN ⟨#[97]⟩) v) : Calls Try.prog 18 #[v, .int .i64 0, .int .i64 (-1)] w fun e w' => ∃ v', e = .returned v' ∧ IsN w' aN v' ∧ Below w.heap.size w w' := rep_c _ v 0 (-1) w h
set_option maxRecDepth 20000 in
set_option maxHeartbeats 2000000 in
theorem awake_c (w : World) : Calls Try.prog 7 #[] w fun e w' => e = .returned (.bool true) ∧ Below w.heap.size w w' := by
  have hA := Lib.hid awN
  have hla := Lib.hid (fun w => lit_c ⟨#[97]⟩ (by decide) w)
  have hlb := Lib.hid (fun w => lit_c ⟨#[98]⟩ (by decide) w)
  have hfb := Lib.hid (fun w v h => first_b w v h)
  have hra := Lib.hid (fun v w h => rep_a v w h)
  have hsm := Lib.hid (fun A0 c0 A1 c1 w h0 h1 h2 h3 => homographref04_Same.calls 10 A0 c0 [0, 1, 2] A1 c1 [0, 1, 2] true w h0 h1 h2 h3 same_012)
  have htx := Lib.hid (fun A0 c0 A1 c1 w h0 h1 h2 h3 => homographref04_Texts.calls 10 A0 c0 [⟨#[120]⟩, ⟨#[121]⟩] A1 c1 [⟨#[120]⟩, ⟨#[121]⟩] true w h0 h1 h2 h3 texts_xy)
  go_enter Try.func7, Try.ntmps7
  generalize aN = n at *
  generalize litN ⟨#[97]⟩ = na at *
  generalize litN ⟨#[98]⟩ = nb at *
  go_upto_region 2 with (first
    | (go_at_call 19; refine (hla.out _).mono ?_; rintro e w1 ⟨v1, rfl, hN1, hB1⟩; have hN1H := Lib.hid hN1; have hB1H := Lib.hid hB1; clear hN1 hB1)
    | (go_at_call 18; refine (hra.out _ _ hN1H.out).mono ?_; rintro e w2 ⟨v2, rfl, hN2, hB2⟩; obtain ⟨A2, c2, e2, hN2c⟩ := hN2.cells; subst e2; have hN2H := Lib.hid hN2; have hB2H := Lib.hid (below_then hB1H.out hB1H.out.size hB2); clear hN2c hN2 hB2))
  have hX := Lib.hid (Blk.new w2 28 #[.int .i64 n.op, .int .u64 n.s0, .int .u64 n.s1, .int .u64 n.s2, .int .u64 n.s3, .int .i64 n.mn, .int .i64 n.mx, .slice A2 n.kids.length c2])
  have hB3 := Lib.hid (below_alloc hB2H.out (.cells #[.int .i64 n.op, .int .u64 n.s0, .int .u64 n.s1, .int .u64 n.s2, .int .u64 n.s3, .int .i64 n.mn, .int .i64 n.mx, .slice A2 n.kids.length c2] 28))
  have hN3 := Lib.hid (hN2H.out.below (below_alloc (Below.refl _ _) (.cells #[.int .i64 n.op, .int .u64 n.s0, .int .u64 n.s1, .int .u64 n.s2, .int .u64 n.s3, .int .i64 n.mn, .int .i64 n.mx, .slice A2 n.kids.length c2] 28)))
  clear hN2H hB2H hN1H hB1H hla hra
  generalize w2.alloc (.cells #[.int .i64 n.op, .int .u64 n.s0, .int .u64 n.s1, .int .u64 n.s2, .int .u64 n.s3, .int .i64 n.mn, .int .i64 n.mx, .slice A2 n.kids.length c2] 28) = W0 at *
  generalize w2.heap.size = b at *
  go_upto_region 3 with (first
    | (go_at_call 19; refine (hlb.out _).mono ?_; rintro e w3 ⟨v3, rfl, hN4, hB4⟩; have hNb := Lib.hid hN4; have hXb := Lib.hid (hX.out.below hB4 hX.out.lt); have hBb := Lib.hid (below_then hB3.out hB3.out.size hB4); have hN5 := Lib.hid (hN3.out.below hB4); clear hN4 hB4)
    | (go_at_call 9; refine (hfb.out _ _ hNb.out).mono ?_; rintro e w4 ⟨rfl, hB4⟩; have hX6 := Lib.hid (hXb.out.below hB4 hXb.out.lt); have hB6 := Lib.hid (below_then hBb.out hBb.out.size hB4); have hN6 := Lib.hid (hN5.out.below hB4); clear hB4))
  clear hN3 hX hB3 hNb hXb hBb hN5 hlb hfb
  have e0 := hX6.out.cell 0
  have e1 := hX6.out.cell 1
  have e2 := hX6.out.cell 2
  have e3 := hX6.out.cell 3
  have e4 := hX6.out.cell 4
  have e5 := hX6.out.cell 5
  have e6 := hX6.out.cell 6
  have e7 := hX6.out.cell 7
  simp only [List.getElem?_toArray, List.getElem?_cons_zero, List.getElem?_cons_succ] at e0 e1 e2 e3 e4 e5 e6 e7
  go_upto_region 4 with (go_at_call 20; refine (hA.out.long _ _ hN6.out).mono ?_; rintro e w7 ⟨rfl, hB7⟩; have hX7 := Lib.hid (hX6.out.below hB7 hX6.out.lt); have hB7H := Lib.hid (below_then hB6.out hB6.out.size hB7); have hN7 := Lib.hid (hN6.out.below hB7); clear hB7)
  clear e0 e1 e2 e3 e4 e5 e6 e7 hX6 hB6 hN6
  have e0 := hX7.out.cell 0
  have e1 := hX7.out.cell 1
  have e2 := hX7.out.cell 2
  have e3 := hX7.out.cell 3
  have e4 := hX7.out.cell 4
  have e5 := hX7.out.cell 5
  have e6 := hX7.out.cell 6
  have e7 := hX7.out.cell 7
  simp only [List.getElem?_toArray, List.getElem?_cons_zero, List.getElem?_cons_succ] at e0 e1 e2 e3 e4 e5 e6 e7
  go_wp2_with (first
    | (go_at_call 22; refine (hA.out.ends _ _ hN7.out).mono ?_; rintro e w8 ⟨A8, c8, rfl, hc8, hC8, hB8⟩; have hX8 := Lib.hid (hX7.out.below hB8 hX7.out.lt); have hB8H := Lib.hid (below_then hB7H.out hB7H.out.size hB8); have hN8 := Lib.hid (hN7.out.below hB8); clear hB8; have hC8H := Lib.hid (Kd.C_alloc hC8 (.cells #[.int .i64 0, .int .i64 1, .int .i64 2] 3)); have hM8 := Lib.hid (C_012 w8); have hX8a := Lib.hid (hX8.out.alloc (.cells #[.int .i64 0, .int .i64 1, .int .i64 2] 3)); have hB8a := Lib.hid (below_alloc hB8H.out (.cells #[.int .i64 0, .int .i64 1, .int .i64 2] 3)); have hN8a := Lib.hid (hN8.out.below (below_alloc (Below.refl _ _) (.cells #[.int .i64 0, .int .i64 1, .int .i64 2] 3))); clear hC8)
    | (go_at_call 21; refine (hsm.out A8 c8 (some ⟨w8.heap.size, 0, none⟩) 3 _ hC8H.out hc8 hM8.out (Nat.le_refl 3)).mono ?_; rintro e w9 ⟨rfl, hD9⟩; have hB9 := hD9.below; have hX9 := Lib.hid (hX8a.out.below hB9 hX8a.out.lt); have hB9H := Lib.hid (below_then hB8a.out hB8a.out.size hB9); have hN9 := Lib.hid (hN8a.out.below hB9); clear hD9 hB9; clear e0 e1 e2 e3 e4 e5 e6 e7; have e0 := hX9.out.cell 0; have e1 := hX9.out.cell 1; have e2 := hX9.out.cell 2; have e3 := hX9.out.cell 3; have e4 := hX9.out.cell 4; have e5 := hX9.out.cell 5; have e6 := hX9.out.cell 6; have e7 := hX9.out.cell 7; simp only [List.getElem?_toArray, List.getElem?_cons_zero, List.getElem?_cons_succ] at e0 e1 e2 e3 e4 e5 e6 e7)
    | (go_at_call 14; have hgo := hN10; clear hgo; (refine (hA.out.ab _ _ hN10.out).mono ?_; rintro e w11 ⟨rfl, hB⟩; have hX11 := Lib.hid (hX10.out.below hB hX10.out.lt); have hB11 := Lib.hid (below_then hB10.out hB10.out.size hB); have hN11 := Lib.hid (hN10.out.below hB); clear hB; clear e0 e1 e2 e3 e4 e5 e6 e7; have e0 := hX11.out.cell 0; have e1 := hX11.out.cell 1; have e2 := hX11.out.cell 2; have e3 := hX11.out.cell 3; have e4 := hX11.out.cell 4; have e5 := hX11.out.cell 5; have e6 := hX11.out.cell 6; have e7 := hX11.out.cell 7; simp only [List.getElem?_toArray, List.getElem?_cons_zero, List.getElem?_cons_succ] at e0 e1 e2 e3 e4 e5 e6 e7))
    | (go_at_call 14; (refine (hA.out.aa _ _ hN9.out).mono ?_; rintro e w10 ⟨rfl, hB⟩; have hX10 := Lib.hid (hX9.out.below hB hX9.out.lt); have hB10 := Lib.hid (below_then hB9H.out hB9H.out.size hB); have hN10 := Lib.hid (hN9.out.below hB); clear hB; clear e0 e1 e2 e3 e4 e5 e6 e7; have e0 := hX10.out.cell 0; have e1 := hX10.out.cell 1; have e2 := hX10.out.cell 2; have e3 := hX10.out.cell 3; have e4 := hX10.out.cell 4; have e5 := hX10.out.cell 5; have e6 := hX10.out.cell 6; have e7 := hX10.out.cell 7; simp only [List.getElem?_toArray, List.getElem?_cons_zero, List.getElem?_cons_succ] at e0 e1 e2 e3 e4 e5 e6 e7))
    | (go_at_call 12; refine (hA.out.cut _ _ hN11.out).mono ?_; rintro e w12 ⟨A12, c12, rfl, hc12, hC12, hB⟩; have hB12 := Lib.hid (below_alloc (below_then hB11.out hB11.out.size hB) (.cells #[.string ⟨#[120]⟩, .string ⟨#[121]⟩] 9)); have hC12H := Lib.hid (Kd.C_alloc hC12 (.cells #[.string ⟨#[120]⟩, .string ⟨#[121]⟩] 9)); have hM12 := Lib.hid (C_xy w12); clear hB hC12)
    | (go_at_call 11; refine (htx.out A12 c12 (some ⟨w12.heap.size, 0, none⟩) 2 _ hC12H.out hc12 hM12.out (Nat.le_refl 2)).mono ?_; rintro e w13 ⟨rfl, hD⟩; have hB13 := Lib.hid (below_then hB12.out hB12.out.size hD.below); clear hD))
  go_ret
  exact ⟨rfl, hB13.out⟩
end Go.Proofs.Ytimhiacjoplkeaa
