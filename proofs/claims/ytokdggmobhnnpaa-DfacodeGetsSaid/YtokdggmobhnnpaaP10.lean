/- DERIVED, printed by a program of this session (wip/pprint.py over the kit's print), with some callees' contracts proved by hand. Lean checks it. -/
import Derived.Test.YtokdggmobhnnpaaP0
import Derived.Test.YtokdggmobhnnpaaP4
import Derived.Test.YtokdggmobhnnpaaP9
import Derived.Test.YtokdggmobhnnpaaAwk
import Derived.Test.YtokdggmobhnnpaaHGet
import Derived.Test.YtokdggmobhnnpaaHPut
namespace Go.Proofs.Ytokdggmobhnnpaa.P
open Go.RowKit Go.Proofs.YtokdggmobhnnpaaW.PrintWords Go.Proofs.YtokdggmobhnnpaaW.PrintLast Go.Proofs.YtokdggmobhnnpaaW.PrintMore
attribute [local go_sem] max2_int min2_int max_two min_two max_three min_three max_four min_four   -- for this text's walks alone
set_option linter.unusedVariables false
set_option linter.unusedSimpArgs false

/-! ### homographlaw11_DfacodeBack: function 5 -/
mutual
def homographlaw11_DfacodeBack.j0 : Nat → List (S57) → Int → List Int → Bool → Option (Bool)
  | 0, _, _, _, _ => none
  | k + 1, x0, x1, x2, x26 => if x26 = true then (some true) else ((dfacode_Number.f k x1).bind fun t202 => (if t202.length + x2.length < 140737488355328 then ((dfacode_Value.f k (t202 ++ x2)).bind fun bt208 => ((dfacode_Put.f x0).bind fun bt210 => ((dfacode_Get.f bt210.1).bind fun bt214 => (if bt208.1 = x1 then (if bt208.2 = (t202.length : Int) then (if (t202.length : Int) < 1 then (homographlaw11_DfacodeBack.j1 k x0 bt210.1 bt210.2 bt214.1 bt214.2 true) else (homographlaw11_DfacodeBack.j1 k x0 bt210.1 bt210.2 bt214.1 bt214.2 (decide ((t202.length : Int) > 10)))) else (homographlaw11_DfacodeBack.j1 k x0 bt210.1 bt210.2 bt214.1 bt214.2 true)) else (homographlaw11_DfacodeBack.j1 k x0 bt210.1 bt210.2 bt214.1 bt214.2 true))))) else (none)))
def homographlaw11_DfacodeBack.j1 : Nat → List (S57) → List Int → Int → List (S57) → Int → Bool → Option (Bool)
  | 0, _, _, _, _, _, _ => none
  | k + 1, x0, x12, x13, x14, x15, x64 => if x64 = true then (some false) else (if x13 = 0 then (if x15 = 0 then ((homographref07_Same.f k x14 x0).bind fun t218 => (some t218)) else (some false)) else (if x13 = 110 then (if (x12.length : Int) = 0 then (some (x15 == 110)) else (some false)) else (some false)))
end
def homographlaw11_DfacodeBack.f (k : Nat) (l0 : List (S57)) (a1 : Int) (l2 : List Int) : Option (Bool) := (homographlaw11_awake.f).bind fun t201 => (if t201 = true then (if (l0.length : Int) > 30 then (homographlaw11_DfacodeBack.j0 k l0 a1 l2 true) else (homographlaw11_DfacodeBack.j0 k l0 a1 l2 (decide ((l2.length : Int) > 60)))) else (some false))
theorem homographlaw11_DfacodeBack.mono_l : ∀ k, (∀ y0 y1 y2 y3, LeO (homographlaw11_DfacodeBack.j0 k y0 y1 y2 y3) (homographlaw11_DfacodeBack.j0 (k + 1) y0 y1 y2 y3)) ∧ (∀ y0 y1 y2 y3 y4 y5, LeO (homographlaw11_DfacodeBack.j1 k y0 y1 y2 y3 y4 y5) (homographlaw11_DfacodeBack.j1 (k + 1) y0 y1 y2 y3 y4 y5))
  | 0 => ⟨fun _ _ _ _ r h => by simp [homographlaw11_DfacodeBack.j0] at h, fun _ _ _ _ _ _ r h => by simp [homographlaw11_DfacodeBack.j1] at h⟩
  | k + 1 => by
    obtain ⟨ih0, ih1⟩ := homographlaw11_DfacodeBack.mono_l k
    refine ⟨?_, ?_⟩
    · intro y0 y1 y2 y3
      unfold homographlaw11_DfacodeBack.j0
      repeat' first
      | (with_reducible exact ih0 _ _ _ _)
      | (with_reducible exact ih1 _ _ _ _ _ _)
      | (with_reducible exact dfacode_Number.mono _ _)
      | (with_reducible exact dfacode_Value.mono _ _)
      | (with_reducible exact homographref07_Same.mono _ _ _)
      | (with_reducible exact LeO.refl _)
      | (with_reducible exact LeO.none _)
      | (with_reducible refine LeO.ite ?_ ?_)
      | (with_reducible refine LeO.bind ?_ (fun _ => ?_))
      | exact ih0 _ _ _ _
      | exact ih1 _ _ _ _ _ _
      | exact dfacode_Number.mono _ _
      | exact dfacode_Value.mono _ _
      | exact homographref07_Same.mono _ _ _
      | exact LeO.none _
      | refine LeO.ite ?_ ?_
      | refine LeO.bind ?_ (fun _ => ?_)
    · intro y0 y1 y2 y3 y4 y5
      unfold homographlaw11_DfacodeBack.j1
      repeat' first
      | (with_reducible exact ih0 _ _ _ _)
      | (with_reducible exact ih1 _ _ _ _ _ _)
      | (with_reducible exact dfacode_Number.mono _ _)
      | (with_reducible exact dfacode_Value.mono _ _)
      | (with_reducible exact homographref07_Same.mono _ _ _)
      | (with_reducible exact LeO.refl _)
      | (with_reducible exact LeO.none _)
      | (with_reducible refine LeO.ite ?_ ?_)
      | (with_reducible refine LeO.bind ?_ (fun _ => ?_))
      | exact ih0 _ _ _ _
      | exact ih1 _ _ _ _ _ _
      | exact dfacode_Number.mono _ _
      | exact dfacode_Value.mono _ _
      | exact homographref07_Same.mono _ _ _
      | exact LeO.none _
      | refine LeO.ite ?_ ?_
      | refine LeO.bind ?_ (fun _ => ?_)
theorem homographlaw11_DfacodeBack.mono : ∀ a0 a1 a2 k, LeO (homographlaw11_DfacodeBack.f k a0 a1 a2) (homographlaw11_DfacodeBack.f (k + 1) a0 a1 a2) := by
  intro a0 a1 a2 k
  obtain ⟨ih0, ih1⟩ := homographlaw11_DfacodeBack.mono_l k
  unfold homographlaw11_DfacodeBack.f
  repeat' first
      | (with_reducible exact ih0 _ _ _ _)
      | (with_reducible exact ih1 _ _ _ _ _ _)
      | (with_reducible exact dfacode_Number.mono _ _)
      | (with_reducible exact dfacode_Value.mono _ _)
      | (with_reducible exact homographref07_Same.mono _ _ _)
      | (with_reducible exact LeO.refl _)
      | (with_reducible exact LeO.none _)
      | (with_reducible refine LeO.ite ?_ ?_)
      | (with_reducible refine LeO.bind ?_ (fun _ => ?_))
      | exact ih0 _ _ _ _
      | exact ih1 _ _ _ _ _ _
      | exact dfacode_Number.mono _ _
      | exact dfacode_Value.mono _ _
      | exact homographref07_Same.mono _ _ _
      | exact LeO.none _
      | refine LeO.ite ?_ ?_
      | refine LeO.bind ?_ (fun _ => ?_)
set_option maxHeartbeats 8000000 in
set_option maxRecDepth 100000 in
theorem homographlaw11_DfacodeBack.calls (k : Nat) (A0 : Option Addr) (c0 : Nat) (l0 : List (S57)) (a1 : Int) (A2 : Option Addr) (c2 : Nat) (l2 : List Int) (r : Bool) (w : World) (hr0 : Kd.C k57 w A0 l0.length l0) (hc0 : l0.length ≤ c0) (hr2 : Kd.C (Kd.int .u8) w A2 l2.length l2) (hc2 : l2.length ≤ c2) (h : homographlaw11_DfacodeBack.f k l0 a1 l2 = some r) :
    Calls Try.prog 5 #[.slice A0 l0.length c0, .int .u64 a1, .slice A2 l2.length c2] w fun e w' => e = .returned (.bool r) ∧ Below w.heap.size w w' := by
  have HR0 := Aside0.mk hr0
  have HC0 := Aside0.mk hc0
  clear hr0 hc0
  have HR2 := Aside0.mk hr2
  have HC2 := Aside0.mk hc2
  clear hr2 hc2
  have HB := Aside0.mk (Below.refl w.heap.size w)
  have H : ((homographlaw11_awake.f).bind fun t201 => (if t201 = true then (if (l0.length : Int) > 30 then (homographlaw11_DfacodeBack.j0 k l0 a1 l2 true) else (homographlaw11_DfacodeBack.j0 k l0 a1 l2 (decide ((l2.length : Int) > 60)))) else (some false))) = some r := h
  clear h
  replace H := Option.bind_eq_some_iff.mp H
  obtain ⟨t201, A40, H⟩ := H
  replace H : (if t201 = true then (if (l0.length : Int) > 30 then (homographlaw11_DfacodeBack.j0 k l0 a1 l2 true) else (homographlaw11_DfacodeBack.j0 k l0 a1 l2 (decide ((l2.length : Int) > 60)))) else (some false)) = some r := H
  have A4 := Aside0.mk A40
  clear A40
  by_cases c5 : t201 = true
  · subst c5
    have H1 : (if (l0.length : Int) > 30 then (homographlaw11_DfacodeBack.j0 k l0 a1 l2 true) else (homographlaw11_DfacodeBack.j0 k l0 a1 l2 (decide ((l2.length : Int) > 60)))) = some r := by rw [if_pos rfl] at H; exact H
    clear H
    have H := H1
    clear H1
    have HC6 := Aside0.mk H
    clear H
    go_enter Try.func5, Try.ntmps5
    go_upto_region 4 with (first | ((with_reducible refine gate_callee (f := 8) rfl ?_); refine goesL_ (some 16) rfl rfl Try.func8 (by kernel_rfl) rfl #[] rfl (by (try simp only [List.map_toArray, List.map_cons, List.map_nil]); first | done | rfl | (simp only [List.length_drop, List.length_take]; rfl)) ?_; (with_reducible refine (homographlaw11_awake.calls  true _ A4.out).mono ?_); rintro e w7 ⟨rfl, hb⟩; refine ⟨_, rfl, ?_⟩; have n0_ := Aside0.mk (below_step (by repeat (first | (with_reducible first | exact HB.out | apply below_alloc | apply pw_below_drewN | apply below_drew1) | exact HB.out)) hb); clear HB; have HB := n0_; clear n0_; (try clear hb); (try clear hb2); (try clear hk); (try clear hi)))
    (try simp only [Act.put, List.setIfInBounds_toArray, List.set_cons_zero, List.set_cons_succ])
    go_cut [26] (fun v26 wc => ∃ (kq : Nat) (x26_5 : Bool), v26 = .bool x26_5 ∧ Aside0 (homographlaw11_DfacodeBack.j0 kq l0 a1 l2 x26_5 = some r) ∧ Aside0 (kq ≤ k) ∧ Aside0 (Below w.heap.size w wc))
    case first =>
      have H := HC6.out
      clear HC6
      by_cases c8 : (l0.length : Int) > 30
      · rw [if_pos c8] at H
        have c8b0 : decide (30 < (l0.length : Int)) = true := decide_eq_true c8
        have c8b1 : decide (30 < l0.length) = true := decide_eq_true (by omega)
        clear c8
        (first | rw [c8b0] | (simp only [i64_w, i32_w]; rw [c8b0]) | skip)
        have H' := Aside0.mk H
        clear H
        go_wp2
        go_meet
        case rel => exact ⟨_, (true), (by first | rfl | (simp; done) | (simp [*]; done)), H', ⟨by first | omega | exact Nat.le_refl _⟩, ⟨by repeat (first | (with_reducible first | exact HB.out | apply below_alloc | apply pw_below_drewN | apply below_drew1) | exact HB.out)⟩⟩
      · rw [if_neg c8] at H
        have c8b0 : decide (30 < (l0.length : Int)) = false := decide_eq_false c8
        have c8b1 : decide (30 < l0.length) = false := decide_eq_false (by omega)
        clear c8
        (first | rw [c8b0] | (simp only [i64_w, i32_w]; rw [c8b0]) | skip)
        have H' := Aside0.mk H
        clear H
        go_wp2
        go_meet
        case rel => exact ⟨_, (decide ((l2.length : Int) > 60)), (by first | rfl | (simp; done) | (simp [*]; done)), H', ⟨by first | omega | exact Nat.le_refl _⟩, ⟨by repeat (first | (with_reducible first | exact HB.out | apply below_alloc | apply pw_below_drewN | apply below_drew1) | exact HB.out)⟩⟩
    case rest =>
      clear HC6
      try clear c2
      try clear p2
      try clear c5
      try clear c8
      try clear c8b0
      try clear c8b1
      obtain ⟨kq, x26_5, rfl, HA, HJ5, HB⟩ := hcut
      cases kq with
      | zero => exact absurd HA.out (by simp [homographlaw11_DfacodeBack.j0])
      | succ kj5 =>
        have H := HA.out
        clear HA
        simp only [homographlaw11_DfacodeBack.j0] at H
        by_cases c9 : x26_5 = true
        · subst c9
          have H1 : (some true) = some r := by rw [if_pos rfl] at H; exact H
          clear H
          have H := H1
          clear H1
          obtain rfl := Option.some.inj H
          go_wp2
          go_ret
          exact ⟨by first | rfl | (simp [errW_none, errW_some] <;> rfl) | (simp [*, errW_none, errW_some] <;> rfl), by repeat (first | (with_reducible first | exact HB.out | apply below_alloc | apply pw_below_drewN | apply below_drew1) | exact HB.out)⟩
        · replace c9 := Bool.eq_false_iff.mpr c9
          subst c9
          have H1 : ((dfacode_Number.f kj5 a1).bind fun t202 => (if t202.length + l2.length < 140737488355328 then ((dfacode_Value.f kj5 (t202 ++ l2)).bind fun bt208 => ((dfacode_Put.f l0).bind fun bt210 => ((dfacode_Get.f bt210.1).bind fun bt214 => (if bt208.1 = a1 then (if bt208.2 = (t202.length : Int) then (if (t202.length : Int) < 1 then (homographlaw11_DfacodeBack.j1 kj5 l0 bt210.1 bt210.2 bt214.1 bt214.2 true) else (homographlaw11_DfacodeBack.j1 kj5 l0 bt210.1 bt210.2 bt214.1 bt214.2 (decide ((t202.length : Int) > 10)))) else (homographlaw11_DfacodeBack.j1 kj5 l0 bt210.1 bt210.2 bt214.1 bt214.2 true)) else (homographlaw11_DfacodeBack.j1 kj5 l0 bt210.1 bt210.2 bt214.1 bt214.2 true))))) else (none))) = some r := by rw [if_neg (show ¬ (false = true) by decide)] at H; exact H
          clear H
          have H := H1
          clear H1
          replace H := Option.bind_eq_some_iff.mp H
          obtain ⟨t202, A100, H⟩ := H
          replace H : (if t202.length + l2.length < 140737488355328 then ((dfacode_Value.f kj5 (t202 ++ l2)).bind fun bt208 => ((dfacode_Put.f l0).bind fun bt210 => ((dfacode_Get.f bt210.1).bind fun bt214 => (if bt208.1 = a1 then (if bt208.2 = (t202.length : Int) then (if (t202.length : Int) < 1 then (homographlaw11_DfacodeBack.j1 kj5 l0 bt210.1 bt210.2 bt214.1 bt214.2 true) else (homographlaw11_DfacodeBack.j1 kj5 l0 bt210.1 bt210.2 bt214.1 bt214.2 (decide ((t202.length : Int) > 10)))) else (homographlaw11_DfacodeBack.j1 kj5 l0 bt210.1 bt210.2 bt214.1 bt214.2 true)) else (homographlaw11_DfacodeBack.j1 kj5 l0 bt210.1 bt210.2 bt214.1 bt214.2 true))))) else (none)) = some r := H
          have A10 := Aside0.mk A100
          clear A100
          by_cases c11 : t202.length + l2.length < 140737488355328
          · rw [if_pos c11] at H
            have LMc11 := Aside0.mk c11
            clear c11
            obtain ⟨y205, hy205⟩ : ∃ y_ : List Int, y_ = (t202 ++ l2) := ⟨_, rfl⟩
            replace H : ((dfacode_Value.f kj5 y205).bind fun bt208 => ((dfacode_Put.f l0).bind fun bt210 => ((dfacode_Get.f bt210.1).bind fun bt214 => (if bt208.1 = a1 then (if bt208.2 = (t202.length : Int) then (if (t202.length : Int) < 1 then (homographlaw11_DfacodeBack.j1 kj5 l0 bt210.1 bt210.2 bt214.1 bt214.2 true) else (homographlaw11_DfacodeBack.j1 kj5 l0 bt210.1 bt210.2 bt214.1 bt214.2 (decide ((t202.length : Int) > 10)))) else (homographlaw11_DfacodeBack.j1 kj5 l0 bt210.1 bt210.2 bt214.1 bt214.2 true)) else (homographlaw11_DfacodeBack.j1 kj5 l0 bt210.1 bt210.2 bt214.1 bt214.2 true))))) = some r := by first | (rw [hy205]; with_reducible exact H) | (have H2_ := (Option.bind_some _ _).symm.trans H; rw [hy205]; with_reducible exact H2_) | (have H2_ := (Option.bind_some _ _).symm.trans H; with_reducible exact H2_) | with_reducible exact H | (rw [hy205]; exact H) | exact H
            have Ny205 := Aside0.mk hy205
            clear hy205
            replace H := Option.bind_eq_some_iff.mp H
            obtain ⟨⟨t208, t209⟩, A120, H⟩ := H
            replace H : ((dfacode_Put.f l0).bind fun bt210 => ((dfacode_Get.f bt210.1).bind fun bt214 => (if t208 = a1 then (if t209 = (t202.length : Int) then (if (t202.length : Int) < 1 then (homographlaw11_DfacodeBack.j1 kj5 l0 bt210.1 bt210.2 bt214.1 bt214.2 true) else (homographlaw11_DfacodeBack.j1 kj5 l0 bt210.1 bt210.2 bt214.1 bt214.2 (decide ((t202.length : Int) > 10)))) else (homographlaw11_DfacodeBack.j1 kj5 l0 bt210.1 bt210.2 bt214.1 bt214.2 true)) else (homographlaw11_DfacodeBack.j1 kj5 l0 bt210.1 bt210.2 bt214.1 bt214.2 true)))) = some r := H
            have A12 := Aside0.mk A120
            clear A120
            replace H := Option.bind_eq_some_iff.mp H
            obtain ⟨⟨t210, t211⟩, A130, H⟩ := H
            replace H : ((dfacode_Get.f t210).bind fun bt214 => (if t208 = a1 then (if t209 = (t202.length : Int) then (if (t202.length : Int) < 1 then (homographlaw11_DfacodeBack.j1 kj5 l0 t210 t211 bt214.1 bt214.2 true) else (homographlaw11_DfacodeBack.j1 kj5 l0 t210 t211 bt214.1 bt214.2 (decide ((t202.length : Int) > 10)))) else (homographlaw11_DfacodeBack.j1 kj5 l0 t210 t211 bt214.1 bt214.2 true)) else (homographlaw11_DfacodeBack.j1 kj5 l0 t210 t211 bt214.1 bt214.2 true))) = some r := H
            have A13 := Aside0.mk A130
            clear A130
            replace H := Option.bind_eq_some_iff.mp H
            obtain ⟨⟨t214, t215⟩, A140, H⟩ := H
            replace H : (if t208 = a1 then (if t209 = (t202.length : Int) then (if (t202.length : Int) < 1 then (homographlaw11_DfacodeBack.j1 kj5 l0 t210 t211 t214 t215 true) else (homographlaw11_DfacodeBack.j1 kj5 l0 t210 t211 t214 t215 (decide ((t202.length : Int) > 10)))) else (homographlaw11_DfacodeBack.j1 kj5 l0 t210 t211 t214 t215 true)) else (homographlaw11_DfacodeBack.j1 kj5 l0 t210 t211 t214 t215 true)) = some r := H
            have A14 := Aside0.mk A140
            clear A140
            have HC15 := Aside0.mk H
            clear H
            go_upto_region 12 with (first | ((with_reducible refine gate_callee (f := 13) rfl ?_); refine goesL_ (some 28) rfl rfl Try.func13 (by kernel_rfl) rfl #[.int .u64 a1] rfl (by (try simp only [List.map_toArray, List.map_cons, List.map_nil]); first | done | rfl | (simp only [List.length_drop, List.length_take]; rfl)) ?_; (with_reducible refine (dfacode_Number.calls kj5 a1 t202 _ A10.out).mono ?_); rintro e w16 ⟨v203, rfl, ho0, hb⟩; refine ⟨_, rfl, ?_⟩; have n0_ := Aside0.mk (Kd.R_lower ho0 (below_size (by repeat (first | (with_reducible first | exact HB.out | apply below_alloc | apply pw_below_drewN | apply below_drew1) | exact HB.out)))); have n1_ := Aside0.mk (below_step (by repeat (first | (with_reducible first | exact HB.out | apply below_alloc | apply pw_below_drewN | apply below_drew1) | exact HB.out)) hb); clear HB; have HO204 := n0_; have HB := n1_; clear n0_ n1_; (try clear hb); (try clear hb2); (try clear hk); (try clear hi); (try clear ho0); obtain ⟨Ao17, co17, eo17⟩ := Kd.R_slice HO204.out; subst eo17) | ((with_reducible refine gate_builtin (b := .append) (xs := #[.tmp 31, .tmp 32]) rfl ?_); (try (refine gate_guard (by rfl) ?_; dsimp only)); at_builtin; refine Kd.R_append_rows (Kd.int .u8) (w0 := w) w.heap.size rfl (.tmp 31) (.tmp 32) 25 5 (.int .u8 0) 1 rfl Try.underlying25 info5 rfl (by decide) (by omega) (.slice Ao17 t202.length co17) t202 l2 _ _ _ (fun _ => True) (fun _ => False) rfl rfl ?aO ?aR (fun _ _ h => h) (fun _ h => h.elim) ?aF ?aB ?aS ?aL ?_; (case aR => repeat (first | exact (Kd.C_below HR2.out HB.out) | (with_reducible refine Kd.C_alloc ?_ _) | (with_reducible refine Kd.C_drewN ?_ _) | (with_reducible refine Kd.C_drew ?_))); (case aB => exact (by repeat (first | (with_reducible first | exact HB.out | apply below_alloc | apply pw_below_drewN | apply below_drew1) | exact HB.out))); (case aF => exact (fun _ _ => trivial)); (case aO => exact (by (with_reducible repeat (first | apply Kd.R_alloc | apply Kd.R_drewN | apply Kd.R_drew)); exact HO204.out)); (case aS => exact (below_size (by repeat (first | (with_reducible first | exact HB.out | apply below_alloc | apply pw_below_drewN | apply below_drew1) | exact HB.out)))); (case aL => have := LMc11.out; omega); intro v206 w18 ho hb hg hat; rw [← Ny205.out] at ho; have n0_ := Aside0.mk (hb); have n1_ := Aside0.mk (ho); clear HB; clear HO204; have HB := n0_; have HO207 := n1_; clear n0_ n1_; clear ho hb hg hat; obtain ⟨Ao19, co19, eo19⟩ := Kd.R_slice HO207.out; subst eo19) | ((with_reducible refine gate_callee (f := 11) rfl ?_); refine goesL_ (some 36) rfl rfl Try.func11 (by kernel_rfl) rfl #[.slice Ao19 y205.length co19] rfl (by (try simp only [List.map_toArray, List.map_cons, List.map_nil]); first | done | rfl | (simp only [List.length_drop, List.length_take]; rfl)) ?_; (with_reducible refine (dfacode_Value.calls kj5 _ _ y205 t208 t209 _ ?side1 ?side2 A12.out).mono ?_); (case side1 => repeat (first | exact (Kd.R_reads' HO207.out).2.2 | (with_reducible refine Kd.C_alloc ?_ _) | (with_reducible refine Kd.C_drewN ?_ _) | (with_reducible refine Kd.C_drew ?_))); (case side2 => exact (Kd.R_reads' HO207.out).2.1); rintro e w' ⟨rfl, ⟨nd, rfl⟩⟩; refine ⟨_, rfl, ?_⟩) | ((with_reducible refine gate_callee (f := 9) rfl ?_); refine goesL_ (some 41) rfl rfl Try.func9 (by kernel_rfl) rfl #[.slice A0 l0.length c0] rfl (by (try simp only [List.map_toArray, List.map_cons, List.map_nil]); first | done | rfl | (simp only [List.length_drop, List.length_take]; rfl)) ?_; (with_reducible refine (dfacode_Put.calls _ _ l0 t210 t211 _ ?side1 ?side2 A13.out).mono ?_); (case side1 => repeat (first | exact (Kd.C_below HR0.out (by repeat (first | (with_reducible first | exact HB.out | apply below_alloc | apply pw_below_drewN | apply below_drew1) | exact HB.out))) | (with_reducible refine Kd.C_alloc ?_ _) | (with_reducible refine Kd.C_drewN ?_ _) | (with_reducible refine Kd.C_drew ?_))); (case side2 => exact HC0.out); rintro e w20 ⟨v212, rfl, ho0, hb⟩; refine ⟨_, rfl, ?_⟩; have n0_ := Aside0.mk (Kd.R_elder' (by (with_reducible repeat (first | apply Kd.R_alloc | apply Kd.R_drewN | apply Kd.R_drew)); exact HO207.out) (Kd.R_base ho0) hb); have n1_ := Aside0.mk (Kd.R_lower (Kd.R_new' ho0 (Kd.R_lt (by (with_reducible repeat (first | apply Kd.R_alloc | apply Kd.R_drewN | apply Kd.R_drew)); exact HO207.out))) (below_size (by repeat (first | (with_reducible first | exact HB.out | apply below_alloc | apply pw_below_drewN | apply below_drew1) | exact HB.out)))); have n2_ := Aside0.mk (below_step (by repeat (first | (with_reducible first | exact HB.out | apply below_alloc | apply pw_below_drewN | apply below_drew1) | exact HB.out)) hb); clear HO207; clear HB; have HO207 := n0_; have HO213 := n1_; have HB := n2_; clear n0_ n1_ n2_; (try clear hb); (try clear hb2); (try clear hk); (try clear hi); (try clear ho0); obtain ⟨Ao21, co21, eo21⟩ := Kd.R_slice HO213.out; subst eo21) | ((with_reducible refine gate_callee (f := 18) rfl ?_); refine goesL_ (some 46) rfl rfl Try.func18 (by kernel_rfl) rfl #[.slice Ao21 t210.length co21] rfl (by (try simp only [List.map_toArray, List.map_cons, List.map_nil]); first | done | rfl | (simp only [List.length_drop, List.length_take]; rfl)) ?_; (with_reducible refine (dfacode_Get.calls _ _ t210 t214 t215 _ ?side1 ?side2 A14.out).mono ?_); (case side1 => repeat (first | exact (Kd.R_reads' HO213.out).2.2 | (with_reducible refine Kd.C_alloc ?_ _) | (with_reducible refine Kd.C_drewN ?_ _) | (with_reducible refine Kd.C_drew ?_))); (case side2 => exact (Kd.R_reads' HO213.out).2.1); rintro e w22 ⟨v216, rfl, ho0, hb⟩; refine ⟨_, rfl, ?_⟩; have n0_ := Aside0.mk (Kd.R_below (by (with_reducible repeat (first | apply Kd.R_alloc | apply Kd.R_drewN | apply Kd.R_drew)); exact HO207.out) hb); have n1_ := Aside0.mk (Kd.R_below (by (with_reducible repeat (first | apply Kd.R_alloc | apply Kd.R_drewN | apply Kd.R_drew)); exact HO213.out) hb); have n2_ := Aside0.mk (Kd.S_lower ho0 (below_size (by repeat (first | (with_reducible first | exact HB.out | apply below_alloc | apply pw_below_drewN | apply below_drew1) | exact HB.out)))); have n3_ := Aside0.mk (below_step (by repeat (first | (with_reducible first | exact HB.out | apply below_alloc | apply pw_below_drewN | apply below_drew1) | exact HB.out)) hb); clear HO207; clear HO213; clear HB; have HO207 := n0_; have HO213 := n1_; have HO217 := n2_; have HB := n3_; clear n0_ n1_ n2_ n3_; (try clear hb); (try clear hb2); (try clear hk); (try clear hi); (try clear ho0)))
            (try simp only [Act.put, List.setIfInBounds_toArray, List.set_cons_zero, List.set_cons_succ])
            go_cut [64] (fun v64 wc => ∃ (kq : Nat) (x64_14 : Bool), v64 = .bool x64_14 ∧ Aside0 (homographlaw11_DfacodeBack.j1 kq l0 t210 t211 t214 t215 x64_14 = some r) ∧ Aside0 (kq ≤ kj5) ∧ Aside0 (Kd.R (Kd.int .u8) 5 wc w.heap.size (fun _ => True) (.slice Ao21 t210.length co21) t210) ∧ Aside0 (Kd.S k57 57 wc w.heap.size (fun _ => True) v216 t214) ∧ Aside0 (Below w.heap.size w wc))
            case first =>
              have H := HC15.out
              clear HC15
              by_cases c23 : t208 = a1
              · rw [if_pos c23] at H
                have c23b0 : (t208 == a1) = true := beq_iff_eq.mpr c23
                have c23b1 : (t208 != a1) = false := bne_eq_false_iff_eq.mpr c23
                clear c23
                (first | rw [c23b0] | (simp only [i64_w, i32_w]; rw [c23b0]) | skip)
                by_cases c24 : t209 = (t202.length : Int)
                · rw [if_pos c24] at H
                  have c24b0 : (t209 == (t202.length : Int)) = true := beq_iff_eq.mpr c24
                  have c24b1 : (t209 != (t202.length : Int)) = false := bne_eq_false_iff_eq.mpr c24
                  clear c24
                  by_cases c25 : (t202.length : Int) < 1
                  · rw [if_pos c25] at H
                    have c25b0 : decide ((t202.length : Int) < 1) = true := decide_eq_true c25
                    have c25b1 : decide (t202.length < 1) = true := decide_eq_true (by omega)
                    clear c25
                    have H' := Aside0.mk H
                    clear H
                    go_wp2
                    go_meet
                    case rel => exact ⟨_, (true), (by first | rfl | (simp; done) | (simp [*]; done)), H', ⟨by have := HJ5.out; first | omega | exact Nat.le_refl _⟩, ⟨by (with_reducible repeat (first | apply Kd.R_alloc | apply Kd.R_drewN | apply Kd.R_drew)); exact Kd.R_mono HO213.out (fun _ hk => trivial)⟩, ⟨by (with_reducible repeat (first | apply Kd.S_alloc | apply Kd.S_drewN | apply Kd.S_drew)); exact HO217.out⟩, ⟨by repeat (first | (with_reducible first | exact HB.out | apply below_alloc | apply pw_below_drewN | apply below_drew1) | exact HB.out)⟩⟩
                  · rw [if_neg c25] at H
                    have c25b0 : decide ((t202.length : Int) < 1) = false := decide_eq_false c25
                    have c25b1 : decide (t202.length < 1) = false := decide_eq_false (by omega)
                    clear c25
                    have H' := Aside0.mk H
                    clear H
                    go_wp2
                    go_meet
                    case rel => exact ⟨_, (decide ((t202.length : Int) > 10)), (by first | rfl | (simp; done) | (simp [*]; done)), H', ⟨by have := HJ5.out; first | omega | exact Nat.le_refl _⟩, ⟨by (with_reducible repeat (first | apply Kd.R_alloc | apply Kd.R_drewN | apply Kd.R_drew)); exact Kd.R_mono HO213.out (fun _ hk => trivial)⟩, ⟨by (with_reducible repeat (first | apply Kd.S_alloc | apply Kd.S_drewN | apply Kd.S_drew)); exact HO217.out⟩, ⟨by repeat (first | (with_reducible first | exact HB.out | apply below_alloc | apply pw_below_drewN | apply below_drew1) | exact HB.out)⟩⟩
                · rw [if_neg c24] at H
                  have c24b0 : (t209 == (t202.length : Int)) = false := beq_eq_false_iff_ne.mpr c24
                  have c24b1 : (t209 != (t202.length : Int)) = true := bne_iff_ne.mpr c24
                  have H' := Aside0.mk H
                  clear H
                  go_wp2
                  go_meet
                  case rel => exact ⟨_, (true), (by first | rfl | (simp; done) | (simp [*]; done)), H', ⟨by have := HJ5.out; first | omega | exact Nat.le_refl _⟩, ⟨by (with_reducible repeat (first | apply Kd.R_alloc | apply Kd.R_drewN | apply Kd.R_drew)); exact Kd.R_mono HO213.out (fun _ hk => trivial)⟩, ⟨by (with_reducible repeat (first | apply Kd.S_alloc | apply Kd.S_drewN | apply Kd.S_drew)); exact HO217.out⟩, ⟨by repeat (first | (with_reducible first | exact HB.out | apply below_alloc | apply pw_below_drewN | apply below_drew1) | exact HB.out)⟩⟩
              · rw [if_neg c23] at H
                have c23b0 : (t208 == a1) = false := beq_eq_false_iff_ne.mpr c23
                have c23b1 : (t208 != a1) = true := bne_iff_ne.mpr c23
                (first | rw [c23b0] | (simp only [i64_w, i32_w]; rw [c23b0]) | skip)
                have H' := Aside0.mk H
                clear H
                go_wp2
                go_meet
                case rel => exact ⟨_, (true), (by first | rfl | (simp; done) | (simp [*]; done)), H', ⟨by have := HJ5.out; first | omega | exact Nat.le_refl _⟩, ⟨by (with_reducible repeat (first | apply Kd.R_alloc | apply Kd.R_drewN | apply Kd.R_drew)); exact Kd.R_mono HO213.out (fun _ hk => trivial)⟩, ⟨by (with_reducible repeat (first | apply Kd.S_alloc | apply Kd.S_drewN | apply Kd.S_drew)); exact HO217.out⟩, ⟨by repeat (first | (with_reducible first | exact HB.out | apply below_alloc | apply pw_below_drewN | apply below_drew1) | exact HB.out)⟩⟩
            case rest =>
              clear HC15
              try clear c1
              try clear c2
              try clear p2
              try clear c5
              try clear c8
              try clear c8b0
              try clear c8b1
              try clear c9
              try clear c11
              try clear c13
              try clear c18
              try clear c23
              try clear c23b0
              try clear c23b1
              try clear c24
              try clear c24b0
              try clear c24b1
              try clear c25
              try clear c25b0
              try clear c25b1
              try clear p2
              obtain ⟨kq, x64_14, rfl, HA, HJ14, HO_12, HO_14, HB⟩ := hcut
              cases kq with
              | zero => exact absurd HA.out (by simp [homographlaw11_DfacodeBack.j1])
              | succ kj14 =>
                have H := HA.out
                clear HA
                simp only [homographlaw11_DfacodeBack.j1] at H
                by_cases c26 : x64_14 = true
                · subst c26
                  have H1 : (some false) = some r := by rw [if_pos rfl] at H; exact H
                  clear H
                  have H := H1
                  clear H1
                  obtain rfl := Option.some.inj H
                  go_wp2
                  go_ret
                  exact ⟨by first | rfl | (simp [errW_none, errW_some] <;> rfl) | (simp [*, errW_none, errW_some] <;> rfl), by repeat (first | (with_reducible first | exact HB.out | apply below_alloc | apply pw_below_drewN | apply below_drew1) | exact HB.out)⟩
                · replace c26 := Bool.eq_false_iff.mpr c26
                  subst c26
                  have H1 : (if t211 = 0 then (if t215 = 0 then ((homographref07_Same.f kj14 t214 l0).bind fun t218 => (some t218)) else (some false)) else (if t211 = 110 then (if (t210.length : Int) = 0 then (some (t215 == 110)) else (some false)) else (some false))) = some r := by rw [if_neg (show ¬ (false = true) by decide)] at H; exact H
                  clear H
                  have H := H1
                  clear H1
                  by_cases c27 : t211 = 0
                  · rw [if_pos c27] at H
                    have c27b0 : (t211 == 0) = true := beq_iff_eq.mpr c27
                    have c27b1 : (t211 != 0) = false := bne_eq_false_iff_eq.mpr c27
                    clear c27
                    by_cases c28 : t215 = 0
                    · rw [if_pos c28] at H
                      have c28b0 : (t215 == 0) = true := beq_iff_eq.mpr c28
                      have c28b1 : (t215 != 0) = false := bne_eq_false_iff_eq.mpr c28
                      clear c28
                      replace H := Option.bind_eq_some_iff.mp H
                      obtain ⟨t218, A290, H⟩ := H
                      replace H : (some t218) = some r := H
                      have A29 := Aside0.mk A290
                      clear A290
                      obtain rfl := Option.some.inj H
                      obtain ⟨Ao30, co30, eo30⟩ := Kd.S_slice HO_14.out
                      subst eo30
                      go_wp2_with (first | (go_at_call 20; (with_reducible refine (homographref07_Same.calls kj14 _ _ t214 _ _ l0 t218 _ ?side1 ?side2 ?side3 ?side4 A29.out).mono ?_); (case side1 => repeat (first | exact (Kd.S_reads' HO_14.out).2.2 | (with_reducible refine Kd.C_alloc ?_ _) | (with_reducible refine Kd.C_drewN ?_ _) | (with_reducible refine Kd.C_drew ?_))); (case side2 => exact (Kd.S_reads' HO_14.out).2.1); (case side3 => repeat (first | exact (Kd.C_below HR0.out HB.out) | (with_reducible refine Kd.C_alloc ?_ _) | (with_reducible refine Kd.C_drewN ?_ _) | (with_reducible refine Kd.C_drew ?_))); (case side4 => exact HC0.out); rintro e w' ⟨rfl, ⟨nd, rfl⟩⟩))
                      go_ret
                      exact ⟨by first | rfl | (simp [errW_none, errW_some] <;> rfl) | (simp [*, errW_none, errW_some] <;> rfl), by repeat (first | (with_reducible first | exact HB.out | apply below_alloc | apply pw_below_drewN | apply below_drew1) | exact HB.out)⟩
                    · rw [if_neg c28] at H
                      have c28b0 : (t215 == 0) = false := beq_eq_false_iff_ne.mpr c28
                      have c28b1 : (t215 != 0) = true := bne_iff_ne.mpr c28
                      obtain rfl := Option.some.inj H
                      go_wp2
                      go_ret
                      exact ⟨by first | rfl | (simp [errW_none, errW_some] <;> rfl) | (simp [*, errW_none, errW_some] <;> rfl), by repeat (first | (with_reducible first | exact HB.out | apply below_alloc | apply pw_below_drewN | apply below_drew1) | exact HB.out)⟩
                  · rw [if_neg c27] at H
                    have c27b0 : (t211 == 0) = false := beq_eq_false_iff_ne.mpr c27
                    have c27b1 : (t211 != 0) = true := bne_iff_ne.mpr c27
                    by_cases c31 : t211 = 110
                    · rw [if_pos c31] at H
                      have c31b0 : (t211 == 110) = true := beq_iff_eq.mpr c31
                      have c31b1 : (t211 != 110) = false := bne_eq_false_iff_eq.mpr c31
                      clear c31
                      by_cases c32 : (t210.length : Int) = 0
                      · rw [if_pos c32] at H
                        have c32b0 : ((t210.length : Int) == 0) = true := beq_iff_eq.mpr c32
                        have c32b1 : ((t210.length : Int) != 0) = false := bne_eq_false_iff_eq.mpr c32
                        clear c32
                        obtain rfl := Option.some.inj H
                        go_wp2
                        go_ret
                        exact ⟨by first | rfl | (simp [errW_none, errW_some] <;> rfl) | (simp [*, errW_none, errW_some] <;> rfl), by repeat (first | (with_reducible first | exact HB.out | apply below_alloc | apply pw_below_drewN | apply below_drew1) | exact HB.out)⟩
                      · rw [if_neg c32] at H
                        have c32b0 : ((t210.length : Int) == 0) = false := beq_eq_false_iff_ne.mpr c32
                        have c32b1 : ((t210.length : Int) != 0) = true := bne_iff_ne.mpr c32
                        have c32b2 : ¬ (t210 = []) := fun h_ => c32 (by rw [h_]; rfl)
                        obtain rfl := Option.some.inj H
                        go_wp2
                        go_ret
                        exact ⟨by first | rfl | (simp [errW_none, errW_some] <;> rfl) | (simp [*, errW_none, errW_some] <;> rfl), by repeat (first | (with_reducible first | exact HB.out | apply below_alloc | apply pw_below_drewN | apply below_drew1) | exact HB.out)⟩
                    · rw [if_neg c31] at H
                      have c31b0 : (t211 == 110) = false := beq_eq_false_iff_ne.mpr c31
                      have c31b1 : (t211 != 110) = true := bne_iff_ne.mpr c31
                      obtain rfl := Option.some.inj H
                      go_wp2
                      go_ret
                      exact ⟨by first | rfl | (simp [errW_none, errW_some] <;> rfl) | (simp [*, errW_none, errW_some] <;> rfl), by repeat (first | (with_reducible first | exact HB.out | apply below_alloc | apply pw_below_drewN | apply below_drew1) | exact HB.out)⟩
          · rw [if_neg c11] at H
            exact absurd H (by simp)
  · replace c5 := Bool.eq_false_iff.mpr c5
    subst c5
    have H1 : (some false) = some r := by rw [if_neg (show ¬ (false = true) by decide)] at H; exact H
    clear H
    have H := H1
    clear H1
    obtain rfl := Option.some.inj H
    go_enter Try.func5, Try.ntmps5
    go_wp2_with (first | ((with_reducible refine gate_callee (f := 8) rfl ?_); refine goesL_ (some 16) rfl rfl Try.func8 (by kernel_rfl) rfl #[] rfl (by (try simp only [List.map_toArray, List.map_cons, List.map_nil]); first | done | rfl | (simp only [List.length_drop, List.length_take]; rfl)) ?_; (with_reducible refine (homographlaw11_awake.calls  false _ A4.out).mono ?_); rintro e w33 ⟨rfl, hb⟩; refine ⟨_, rfl, ?_⟩; have n0_ := Aside0.mk (below_step (by repeat (first | (with_reducible first | exact HB.out | apply below_alloc | apply pw_below_drewN | apply below_drew1) | exact HB.out)) hb); clear HB; have HB := n0_; clear n0_; (try clear hb); (try clear hb2); (try clear hk); (try clear hi)))
    go_ret
    exact ⟨by first | rfl | (simp [errW_none, errW_some] <;> rfl) | (simp [*, errW_none, errW_some] <;> rfl), by repeat (first | (with_reducible first | exact HB.out | apply below_alloc | apply pw_below_drewN | apply below_drew1) | exact HB.out)⟩

end Go.Proofs.Ytokdggmobhnnpaa.P
