/- homographlaw10.awake: its walk. Own text. -/
import Derived.Test.YtbhdpamepmkaiaaRBack
namespace Go.Proofs.Ytbhdpamepmkaiaa
open Go.RowKit Go.Proofs.Ytbhdpamepmkaiaa.P Go.Proofs.Ytbhdpamepmkaiaa.Plain Go.Proofs.YtbhdpamepmkaiaaW.PrintWords Go.Proofs.YtbhdpamepmkaiaaW.PrintLast Go.Proofs.YtbhdpamepmkaiaaW.PrintMore
set_option linter.unusedVariables false
def m0 : List S48 := [⟨0, [⟨97, 99, 1⟩]⟩, ⟨0, [⟨120, 120, 2⟩]⟩, ⟨1, []⟩]
def clsA : List Int := List.replicate 97 0 ++ [1, 1, 1] ++ List.replicate 20 0 ++ [2] ++ List.replicate 135 0
set_option maxRecDepth 100000
theorem many0 : manyL m0 m0.length = 3 := by decide +kernel
theorem cls0 : cls m0 = clsA := by decide +kernel
theorem lows0 : lowsL clsA = [0, 97, 120] := by decide +kernel
def tabA : List (List Int) := [[-1, 1, -1], [-1, -1, 2], [-1, -1, -1]]
theorem tab0 : tabM m0 = tabA := by
  unfold tabM rowM
  rw [cls0, lows0]
  decide +kernel
theorem run0 : runT clsA tabA ⟨#[98, 120]⟩ = 2 := by decide +kernel
theorem run1 : runT clsA tabA ⟨#[120]⟩ = -1 := by decide +kernel
deriving instance DecidableEq for S50
deriving instance DecidableEq for S48
theorem back0 : backM clsA tabA [0, 0, 1] = m0 := by decide +kernel

theorem C_of_cells {α : Type} (d : Kd α) {w : World} {ad : Addr} {xs : List α} {inner : List Value} (hr : Reps (d.K w) d.sz xs inner) (hsz : ∀ x c, d.K w x c → c.length = d.sz) (hm : xs.length ≤ 9223372036854775807) (hc : ∀ j u, inner[j]? = some u → w.cell? (ad.add j) = some u) : d.C w (some ad) xs.length xs := by
  refine ⟨rfl, hm, fun _ => ⟨ad, rfl, fun j p hj => ?_⟩⟩
  have hK := hr.2 j p hj
  refine ⟨_, hsz _ _ hK, hK, fun i u hu => ?_⟩
  have hi : i < d.sz := by
    rcases Nat.lt_or_ge i d.sz with h | h
    · exact h
    · rw [List.getElem?_take, if_neg (by omega)] at hu; cases hu
  rw [List.getElem?_take, if_pos hi, List.getElem?_drop] at hu
  exact hc _ _ hu
theorem blk_add {w : World} {g : Nat} {t : TypeId} {cs : List Value} (h : Blk w g t cs.toArray) : ∀ j u, cs[j]? = some u → w.cell? ((⟨g, 0, none⟩ : Addr).add j) = some u := fun j u hu => by
  rw [add_plain, h.cell j]; simpa using hu
theorem isM0 {w : World} {a b g : Nat} (ha : Blk w a 50 #[.int .u8 97, .int .u8 99, .int .i64 1]) (hb : Blk w b 50 #[.int .u8 120, .int .u8 120, .int .i64 2])
    (hg : Blk w g 48 #[.int .u64 0, .slice (some ⟨a, 0, none⟩) 1 1, .int .u64 0, .slice (some ⟨b, 0, none⟩) 1 1, .int .u64 1, .slice none 0 0]) : IsM w (.slice (some ⟨g, 0, none⟩) 3 3) m0 := by
  have h1 : k50.C w (some ⟨a, 0, none⟩) [(⟨97, 99, 1⟩ : S50)].length [⟨97, 99, 1⟩] :=
    C_of_cells k50 ((Reps.none _ _).snoc (k50_mk w ⟨97, 99, 1⟩) rfl) (fun x c h => k50.K_len h) (by simp) (blk_add ha)
  have h2 : k50.C w (some ⟨b, 0, none⟩) [(⟨120, 120, 2⟩ : S50)].length [⟨120, 120, 2⟩] :=
    C_of_cells k50 ((Reps.none _ _).snoc (k50_mk w ⟨120, 120, 2⟩) rfl) (fun x c h => k50.K_len h) (by simp) (blk_add hb)
  have h3 : k50.C w none ([] : List S50).length [] := ⟨rfl, by simp, fun h => absurd h (Nat.lt_irrefl 0)⟩
  refine ⟨some ⟨g, 0, none⟩, 3, rfl, by decide, ?_⟩
  exact C_of_cells k48 ((((Reps.none _ _).snoc (k48_mk w ⟨0, [⟨97, 99, 1⟩]⟩ (c1 := 1) (by decide) h1) rfl).snoc (k48_mk w ⟨0, [⟨120, 120, 2⟩]⟩ (c1 := 1) (by decide) h2) rfl).snoc (k48_mk w ⟨1, []⟩ (c1 := 0) (by decide) h3) rfl) (fun x c h => k48.K_len h) (by decide) (blk_add hg)

theorem below_setRow0' (w : World) (z : Array Value) (t : TypeId) (cs : Array Value) : Below w.heap.size w ((w.alloc (.cells z t)).setRow w.heap.size cs) := below_setRow_ (below_alloc (Below.refl _ _) _) (Nat.le_refl _) _
theorem isT3 {w : World} {v : Value} (h : IsT w v tabA) : ∃ ad A0 ae c0 c3, v = .slice (some ad) 3 c3 ∧ A0 = some ae ∧ w.cell? (ad.add 0) = some (.slice (some ae) 3 c0) ∧ w.cell? (ae.add 0) = some (.int .i64 (-1)) ∧ w.cell? (ae.add 1) = some (.int .i64 1) := by
  have hh := h
  obtain ⟨A, c, rfl, _, _⟩ := h
  obtain ⟨_, ad, A0, c0, rfl, h1, h2⟩ := hh.row 0 (by decide)
  obtain ⟨ae, rfl, h3⟩ := h2 0 (by decide)
  obtain ⟨ae', he, h4⟩ := h2 1 (by decide)
  injection he with he
  subst he
  exact ⟨ad, _, ae, c0, c, rfl, rfl, h1, h3, h4⟩
theorem isT3_at {w : World} {ad : Addr} {n c : Nat} (h : IsT w (.slice (some ad) n c) tabA) : ∃ ae c0, w.cell? ad = some (.slice (some ae) 3 c0) ∧ w.cell? ae = some (.int .i64 (-1)) ∧ w.cell? ⟨ae.block, ae.off + 1, none⟩ = some (.int .i64 1) := by
  obtain ⟨ad', A0, ae, c0, c3, he, _, h1, h2, h3⟩ := isT3 h
  injection he with he
  injection he with he
  subst he
  exact ⟨ae, c0, by rwa [show ad.add 0 = ad from rfl] at h1, by rwa [show ae.add 0 = ae from rfl] at h2, by rwa [show ae.add 1 = ⟨ae.block, ae.off + 1, none⟩ from rfl] at h3⟩
theorem isU_lit (w : World) (e : TypeId) (k : IntKind) (xs : List Int) (hm : xs.length ≤ 9223372036854775807) : IsU k (w.alloc (.cells (arI k xs) e)) (.slice (some ⟨w.heap.size, 0, none⟩) xs.length xs.length) xs :=
  IsU.of_R ((Blk.new w e (arI k xs)).to_R (base := 0) (ok := fun _ => True) (by omega) (by simpa [maxLen] using hm) trivial)
theorem clsA_len : clsA.length = 256 := by rw [← cls0]; exact cls_len m0
theorem clsA_bd : ∀ x ∈ clsA, 0 ≤ x ∧ x ≤ 255 := by rw [← cls0]; exact cls_bd m0
theorem clsA_98 : clsA.getD 98 0 = 1 := by decide +kernel
theorem clsA_100 : clsA.getD 100 0 = 0 := by decide +kernel
theorem tabA_len : tabA.length = 3 := rfl
theorem str0 : strOfNums [0, 97, 120] = ⟨#[0, 97, 120]⟩ := by decide +kernel
set_option maxRecDepth 20000 in
set_option maxHeartbeats 2000000 in
theorem awake_c (w : World) : Calls Try.prog 7 #[] w fun e w' => e = .returned (.bool true) ∧ Below w.heap.size w w' := by
  have hOf := Lib.hid (fun (W : World) (v : Value) (h : IsM W v m0) => of_c h (by decide))
  rw [partL_cls, cls0, many0] at hOf
  have hTb := Lib.hid (fun (W : World) (v : Value) (h : IsM W v m0) => table_c h (by decide))
  rw [tab0] at hTb
  have hLw := Lib.hid (fun (W : World) => classes_Lows.calls clsA clsA_len clsA_bd W)
  rw [lows0] at hLw
  have hR0 := Lib.hid (fun (W : World) (v : Value) (h : IsT W v tabA) => trun_c h clsA clsA_len clsA_bd ⟨#[98, 120]⟩ (by decide))
  rw [run0] at hR0
  have hR1 := Lib.hid (fun (W : World) (v : Value) (h : IsT W v tabA) => trun_c h clsA clsA_len clsA_bd ⟨#[120]⟩ (by decide))
  rw [run1] at hR1
  have hBk := Lib.hid (fun (W : World) (v ev : Value) (h : IsT W v tabA) (he : IsU .u64 W ev [0, 0, 1]) => back_c h clsA clsA_len clsA_bd he (by decide))
  rw [back0] at hBk
  have hsz : (Try.prog.info? 24).map (·.size) = some (arI .u8 clsA).size := by rw [arI_size, clsA_len]; exact size24'
  have hsz0 : zerosB.size = (arI .u8 clsA).size := by rw [arI_size, clsA_len]; rfl
  have hone := arI_one .u8 clsA
  have hcell := Lib.hid (fun (W : World) (g : Nat) (h : Blk W g 24 (arI .u8 clsA)) (b : Nat) (hb : b < 256) => h.cellI b (by rw [clsA_len]; exact hb))
  generalize hA : arI .u8 clsA = C at *
  clear hA
  have hb1 := Blk.new w 50 #[.int .u8 97, .int .u8 99, .int .i64 1]
  have hb2 := Blk.new (w.alloc (.cells #[.int .u8 97, .int .u8 99, .int .i64 1] 50)) 50 #[.int .u8 120, .int .u8 120, .int .i64 2]
  have hb3 := Blk.new ((w.alloc (.cells #[.int .u8 97, .int .u8 99, .int .i64 1] 50)).alloc (.cells #[.int .u8 120, .int .u8 120, .int .i64 2] 50)) 48 #[.int .u64 0, .slice (some ⟨w.heap.size, 0, none⟩) 1 1, .int .u64 0, .slice (some ⟨w.heap.size + 1, 0, none⟩) 1 1, .int .u64 1, .slice none 0 0]
  rw [World.size_alloc] at hb2
  rw [World.size_alloc, World.size_alloc] at hb3
  have hM0 := Lib.hid (isM0 ((hb1.alloc _).alloc _) (hb2.alloc _) hb3)
  have hB0 := Lib.hid (below_alloc (below_alloc (below_alloc (Below.refl w.heap.size w) (.cells #[.int .u8 97, .int .u8 99, .int .i64 1] 50)) (.cells #[.int .u8 120, .int .u8 120, .int .i64 2] 50)) (.cells #[.int .u64 0, .slice (some ⟨w.heap.size, 0, none⟩) 1 1, .int .u64 0, .slice (some ⟨w.heap.size + 1, 0, none⟩) 1 1, .int .u64 1, .slice none 0 0] 48))
  clear hb1 hb2 hb3
  go_enter Try.func7, Try.ntmps7
  go_wp2_with (first
    | (go_at_call 8; refine (hOf.out _ _ hM0.out).mono ?_; rintro e w1 ⟨rfl, hb1⟩; have hM1 := Lib.hid (hM0.out.below hb1); have hB1 := Lib.hid (below_then hB0.out hB0.out.size hb1); clear hb1 hM0 hB0)
    | (refine wpList_alloc_arr rfl 24 rfl zerosB zero24 ?_)
    | (refine wpList_store_row rfl 24 (.tmp 2) (.tmp 16) rfl w1.heap.size _ rfl rfl 24 zerosB (Blk.new w1 24 zerosB) hsz hsz0 hone ?_; have hb2 := below_setRow0' w1 zerosB 24 C; have hM2 := Lib.hid (hM1.out.below hb2); have hB2 := Lib.hid (below_then hB1.out hB1.out.size hb2); have hK2 := Lib.hid ((Blk.new w1 24 zerosB).setRow_ C); clear hb2 hM1 hB1)
    | (go_at_call 13; refine (hTb.out _ _ hM2.out).mono ?_; rintro e w3 ⟨v0, rfl, hT3, hb3⟩; have hT3' := Lib.hid hT3; have hM3 := Lib.hid (hM2.out.below hb3); have hB3 := Lib.hid (below_then hB2.out hB2.out.size hb3); have hK3 := Lib.hid (hK2.out.below hb3 hK2.out.lt); clear hb3 hM2 hB2 hK2; generalize w1.heap.size = g at *; obtain ⟨ad, _, _, _, c3, rfl, _, _, _, _⟩ := isT3 hT3; have hld3 := run_loadVar_row (P := Try.prog) w3 g 24 24 C (0, 0) _ hK3.out Try.underlying24 rfl hsz))
  refine wp_load_row 24 (.tmp 2) rfl g rfl 24 _ (0, 0) _ hK3.out Try.underlying24 rfl hsz ?_
  go_wp2_with (go_at_call 10; refine (hLw.out _).mono ?_; rintro e w4 ⟨v1, rfl, hl4, hb4⟩; obtain ⟨A4, c4, hv4, _, hC4⟩ := Kd.R_reads hl4; subst hv4; have hcv : (convert 28 9 (.slice A4 3 c4)).run Try.prog w4 = .ok (.string ⟨#[0, 97, 120]⟩) w4 := (by have h := Kd.C_string (P := Try.prog) (src := 28) (dst := 9) (e := 5) (c := c4) Try.underlying28 Try.underlying5 Try.underlying9 hC4; rw [str0] at h; exact h); have hT4 := Lib.hid (hT3'.out.below hb4); have hM4 := Lib.hid (hM3.out.below hb4); have hB4 := Lib.hid (below_then hB3.out hB3.out.size hb4); have hK4 := Lib.hid (hK3.out.below hb4 hK3.out.lt); have hld4 := run_loadVar_row (P := Try.prog) w4 g 24 24 C (0, 0) _ hK4.out Try.underlying24 rfl hsz; have hc98 := hcell.out _ _ hK4.out 98 (by decide); have hc100 := hcell.out _ _ hK4.out 100 (by decide); rw [clsA_98] at hc98; rw [clsA_100] at hc100; obtain ⟨ae, c0, hr0, he0, he1⟩ := isT3_at hT4.out; clear hb4 hM3 hB3 hK3 hT3 hT3' hC4 hl4)
  refine wp_load_row 24 (.tmp 2) rfl g rfl 24 _ (0, 0) _ hK4.out Try.underlying24 rfl hsz ?_
  go_wp2_with (go_at_call 18; refine (hR0.out _ _ hT4.out).mono ?_; rintro e w5 ⟨rfl, hb5⟩; have hT5 := Lib.hid (hT4.out.below hb5); have hM5 := Lib.hid (hM4.out.below hb5); have hB5 := Lib.hid (below_then hB4.out hB4.out.size hb5); have hK5 := Lib.hid (hK4.out.below hb5 hK4.out.lt); clear hb5 hT4 hM4 hB4)
  refine wp_load_row 24 (.tmp 2) rfl g rfl 24 _ (0, 0) _ hK5.out Try.underlying24 rfl hsz ?_
  go_wp2_with (go_at_call 18; refine (hR1.out _ _ hT5.out).mono ?_; rintro e w6 ⟨rfl, hb6⟩; have hT6 := Lib.hid (hT5.out.below hb6); have hM6 := Lib.hid (hM5.out.below hb6); have hB6 := Lib.hid (below_then hB5.out hB5.out.size hb6); have hK6 := Lib.hid (hK5.out.below hb6 hK5.out.lt); clear hb6 hT5 hM5 hB5)
  refine wp_load_row 24 (.tmp 2) rfl g rfl 24 _ (0, 0) _ hK6.out Try.underlying24 rfl hsz ?_
  have hU7 : IsU .u64 (w6.alloc (.cells #[.int .u64 0, .int .u64 0, .int .u64 1] 34)) (.slice (some ⟨w6.heap.size, 0, none⟩) 3 3) [0, 0, 1] := isU_lit w6 34 .u64 [0, 0, 1] (by decide)
  have hb7 := below_alloc (Below.refl w6.heap.size w6) (.cells #[.int .u64 0, .int .u64 0, .int .u64 1] 34)
  have hT7 := Lib.hid (hT6.out.below hb7)
  have hM7 := Lib.hid (hM6.out.below hb7)
  have hB7 := Lib.hid (below_then hB6.out hB6.out.size hb7)
  clear hb7 hT6 hM6 hB6
  go_wp2_with (first
    | (go_at_call 16; refine (hBk.out _ _ _ hT7.out hU7).mono ?_; rintro e w8 ⟨v8, rfl, hM8, hb8⟩; have hM8' := Lib.hid (hM7.out.below hb8); have hB8 := Lib.hid (below_then hB7.out hB7.out.size hb8); clear hb8)
    | (go_at_call 15; refine (same_c hM8 hM8'.out).mono ?_; rintro e w9 ⟨rfl, hb9⟩))
  go_ret
  exact ⟨rfl, below_then hB8.out hB8.out.size hb9⟩
end Go.Proofs.Ytbhdpamepmkaiaa
