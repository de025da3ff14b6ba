/- The reference's Get: its plain function and its walk. Printed by wip/pprint.py, mended by wip/mend8.py. -/
import Derived.Test.YtokdggmobhnnpaaP0
import Derived.Test.YtokdggmobhnnpaaP7
import Derived.Test.YtokdggmobhnnpaaHRPut
namespace Go.Proofs.Ytokdggmobhnnpaa.P
open Go.RowKit Go.Proofs.YtokdggmobhnnpaaW.PrintWords Go.Proofs.YtokdggmobhnnpaaW.PrintLast Go.Proofs.YtokdggmobhnnpaaW.PrintMore
attribute [local go_sem] max2_int min2_int max_two min_two max_three min_three max_four min_four   -- for this text's walks alone
set_option linter.unusedVariables false
set_option linter.unusedSimpArgs false

/-! ### homographref11_Get: function 19 -/
mutual
def homographref11_Get.j0 : Nat → ByteArray → Bool → Option ((List (S57)) × Int)
  | 0, _, _ => none
  | k + 1, x0, x25 => if x25 = true then (some (([] : List (S57)), 110)) else (if 4 ≤ (x0.size : Int) then ((homographref11_Value.f k (x0.extract 4 x0.size)).bind fun bt166 => (if 0 ≤ bt166.2 then (if bt166.2 ≤ ((x0.extract 4 x0.size).size : Int) then (homographref11_Get.l0 k x0 ((x0.extract 4 x0.size).extract (bt166.2 : Int).toNat (x0.extract 4 x0.size).size) bt166.1 ([] : List (S57)) 0) else (none)) else (none))) else (none))
def homographref11_Get.l0 : Nat → ByteArray → ByteArray → Int → List (S57) → Int → Option ((List (S57)) × Int)
  | 0, _, _, _, _, _ => none
  | k + 1, x0, x4, x5, x7, x8 => if x8 < x5 then (homographref11_Get.j2 k x0 x4 x5 x7 x8 (decide (x8 ≤ 4096))) else (homographref11_Get.j2 k x0 x4 x5 x7 x8 false)
def homographref11_Get.j2 : Nat → ByteArray → ByteArray → Int → List (S57) → Int → Bool → Option ((List (S57)) × Int)
  | 0, _, _, _, _, _, _ => none
  | k + 1, x0, x4, x5, x7, x8, x42 => if x42 = true then ((homographref11_Value.f k x4).bind fun bt171 => (if 0 ≤ bt171.2 then (if bt171.2 ≤ (x4.size : Int) then ((homographref11_Value.f k (x4.extract (bt171.2 : Int).toNat x4.size)).bind fun bt173 => (if 0 ≤ bt173.2 then (if bt173.2 ≤ ((x4.extract (bt171.2 : Int).toNat x4.size).size : Int) then (homographref11_Get.l1 k x0 ((x4.extract (bt171.2 : Int).toNat x4.size).extract (bt173.2 : Int).toNat (x4.extract (bt171.2 : Int).toNat x4.size).size) x5 x7 x8 bt173.1 0 bt171.1 ([] : List (S59))) else (none)) else (none))) else (none)) else (none))) else ((homographref11_Put.f x7).bind fun bt168 => (if bt168.2 = 0 then (if bt168.1.toList = x0.toList then (some (x7, 0)) else (some (([] : List (S57)), 110))) else (some (([] : List (S57)), 110))))
def homographref11_Get.l1 : Nat → ByteArray → ByteArray → Int → List (S57) → Int → Int → Int → Int → List (S59) → Option ((List (S57)) × Int)
  | 0, _, _, _, _, _, _, _, _, _ => none
  | k + 1, x0, x4, x5, x7, x8, x10, x13, x171000, x171001 => if x13 < x10 then (if x13 < 256 then (if (x4.size : Int) > 2 then (if 2 ≤ (x4.size : Int) then ((homographref11_Value.f k (x4.extract 2 x4.size)).bind fun bt175 => (if 0 < (x4.size : Int) then (if 1 < (x4.size : Int) then (if x171001.length < 8796093022208 then (if 0 ≤ (wrap64 (2 + bt175.2)) then (if (wrap64 (2 + bt175.2)) ≤ (x4.size : Int) then (homographref11_Get.l1 k x0 (x4.extract ((wrap64 (2 + bt175.2)) : Int).toNat x4.size) x5 x7 x8 x10 (IntKind.u64.wrap (x13 + 1)) x171000 (x171001 ++ [(⟨bt x4 0, bt x4 1, wrap64 (mn bt175.1 4096)⟩ : S59)])) else (none)) else (none)) else (none)) else (none)) else (none))) else (none)) else (if x7.length < 4398046511104 then (homographref11_Get.l0 k x0 x4 x5 (x7 ++ [(⟨x171000, x171001⟩ : S57)]) (IntKind.u64.wrap (x8 + 1))) else (none))) else (if x7.length < 4398046511104 then (homographref11_Get.l0 k x0 x4 x5 (x7 ++ [(⟨x171000, x171001⟩ : S57)]) (IntKind.u64.wrap (x8 + 1))) else (none))) else (if x7.length < 4398046511104 then (homographref11_Get.l0 k x0 x4 x5 (x7 ++ [(⟨x171000, x171001⟩ : S57)]) (IntKind.u64.wrap (x8 + 1))) else (none))
end
def homographref11_Get.f (k : Nat) (a0 : ByteArray) : Option ((List (S57)) × Int) := if (a0.size : Int) < 5 then (homographref11_Get.j0 k a0 true) else (if 0 ≤ 4 then (if 4 ≤ (a0.size : Int) then (homographref11_Get.j0 k a0 ((a0.extract 0 4).toList != ([68, 70, 65, 49] : List UInt8))) else (none)) else (none))
theorem homographref11_Get.mono_l : ∀ k, (∀ y0 y1, LeO (homographref11_Get.j0 k y0 y1) (homographref11_Get.j0 (k + 1) y0 y1)) ∧ (∀ y0 y1 y2 y3 y4, LeO (homographref11_Get.l0 k y0 y1 y2 y3 y4) (homographref11_Get.l0 (k + 1) y0 y1 y2 y3 y4)) ∧ (∀ y0 y1 y2 y3 y4 y5, LeO (homographref11_Get.j2 k y0 y1 y2 y3 y4 y5) (homographref11_Get.j2 (k + 1) y0 y1 y2 y3 y4 y5)) ∧ (∀ y0 y1 y2 y3 y4 y5 y6 y7 y8, LeO (homographref11_Get.l1 k y0 y1 y2 y3 y4 y5 y6 y7 y8) (homographref11_Get.l1 (k + 1) y0 y1 y2 y3 y4 y5 y6 y7 y8))
  | 0 => ⟨fun _ _ r h => by simp [homographref11_Get.j0] at h, fun _ _ _ _ _ r h => by simp [homographref11_Get.l0] at h, fun _ _ _ _ _ _ r h => by simp [homographref11_Get.j2] at h, fun _ _ _ _ _ _ _ _ _ r h => by simp [homographref11_Get.l1] at h⟩
  | k + 1 => by
    obtain ⟨ih0, ih1, ih2, ih3⟩ := homographref11_Get.mono_l k
    refine ⟨?_, ?_, ?_, ?_⟩
    · intro y0 y1
      unfold homographref11_Get.j0
      repeat' first
      | (with_reducible exact ih0 _ _)
      | (with_reducible exact ih1 _ _ _ _ _)
      | (with_reducible exact ih2 _ _ _ _ _ _)
      | (with_reducible exact ih3 _ _ _ _ _ _ _ _ _)
      | (with_reducible exact homographref11_Value.mono _ _)
      | (with_reducible exact LeO.refl _)
      | (with_reducible exact LeO.none _)
      | (with_reducible refine LeO.ite ?_ ?_)
      | (with_reducible refine LeO.bind ?_ (fun _ => ?_))
      | exact ih0 _ _
      | exact ih1 _ _ _ _ _
      | exact ih2 _ _ _ _ _ _
      | exact ih3 _ _ _ _ _ _ _ _ _
      | exact homographref11_Value.mono _ _
      | exact LeO.none _
      | refine LeO.ite ?_ ?_
      | refine LeO.bind ?_ (fun _ => ?_)
    · intro y0 y1 y2 y3 y4
      unfold homographref11_Get.l0
      repeat' first
      | (with_reducible exact ih0 _ _)
      | (with_reducible exact ih1 _ _ _ _ _)
      | (with_reducible exact ih2 _ _ _ _ _ _)
      | (with_reducible exact ih3 _ _ _ _ _ _ _ _ _)
      | (with_reducible exact homographref11_Value.mono _ _)
      | (with_reducible exact LeO.refl _)
      | (with_reducible exact LeO.none _)
      | (with_reducible refine LeO.ite ?_ ?_)
      | (with_reducible refine LeO.bind ?_ (fun _ => ?_))
      | exact ih0 _ _
      | exact ih1 _ _ _ _ _
      | exact ih2 _ _ _ _ _ _
      | exact ih3 _ _ _ _ _ _ _ _ _
      | exact homographref11_Value.mono _ _
      | exact LeO.none _
      | refine LeO.ite ?_ ?_
      | refine LeO.bind ?_ (fun _ => ?_)
    · intro y0 y1 y2 y3 y4 y5
      unfold homographref11_Get.j2
      repeat' first
      | (with_reducible exact ih0 _ _)
      | (with_reducible exact ih1 _ _ _ _ _)
      | (with_reducible exact ih2 _ _ _ _ _ _)
      | (with_reducible exact ih3 _ _ _ _ _ _ _ _ _)
      | (with_reducible exact homographref11_Value.mono _ _)
      | (with_reducible exact LeO.refl _)
      | (with_reducible exact LeO.none _)
      | (with_reducible refine LeO.ite ?_ ?_)
      | (with_reducible refine LeO.bind ?_ (fun _ => ?_))
      | exact ih0 _ _
      | exact ih1 _ _ _ _ _
      | exact ih2 _ _ _ _ _ _
      | exact ih3 _ _ _ _ _ _ _ _ _
      | exact homographref11_Value.mono _ _
      | exact LeO.none _
      | refine LeO.ite ?_ ?_
      | refine LeO.bind ?_ (fun _ => ?_)
    · intro y0 y1 y2 y3 y4 y5 y6 y7 y8
      unfold homographref11_Get.l1
      repeat' first
      | (with_reducible exact ih0 _ _)
      | (with_reducible exact ih1 _ _ _ _ _)
      | (with_reducible exact ih2 _ _ _ _ _ _)
      | (with_reducible exact ih3 _ _ _ _ _ _ _ _ _)
      | (with_reducible exact homographref11_Value.mono _ _)
      | (with_reducible exact LeO.refl _)
      | (with_reducible exact LeO.none _)
      | (with_reducible refine LeO.ite ?_ ?_)
      | (with_reducible refine LeO.bind ?_ (fun _ => ?_))
      | exact ih0 _ _
      | exact ih1 _ _ _ _ _
      | exact ih2 _ _ _ _ _ _
      | exact ih3 _ _ _ _ _ _ _ _ _
      | exact homographref11_Value.mono _ _
      | exact LeO.none _
      | refine LeO.ite ?_ ?_
      | refine LeO.bind ?_ (fun _ => ?_)
theorem homographref11_Get.mono : ∀ a0 k, LeO (homographref11_Get.f k a0) (homographref11_Get.f (k + 1) a0) := by
  intro a0 k
  obtain ⟨ih0, ih1, ih2, ih3⟩ := homographref11_Get.mono_l k
  unfold homographref11_Get.f
  repeat' first
      | (with_reducible exact ih0 _ _)
      | (with_reducible exact ih1 _ _ _ _ _)
      | (with_reducible exact ih2 _ _ _ _ _ _)
      | (with_reducible exact ih3 _ _ _ _ _ _ _ _ _)
      | (with_reducible exact homographref11_Value.mono _ _)
      | (with_reducible exact LeO.refl _)
      | (with_reducible exact LeO.none _)
      | (with_reducible refine LeO.ite ?_ ?_)
      | (with_reducible refine LeO.bind ?_ (fun _ => ?_))
      | exact ih0 _ _
      | exact ih1 _ _ _ _ _
      | exact ih2 _ _ _ _ _ _
      | exact ih3 _ _ _ _ _ _ _ _ _
      | exact homographref11_Value.mono _ _
      | exact LeO.none _
      | refine LeO.ite ?_ ?_
      | refine LeO.bind ?_ (fun _ => ?_)
def homographref11_Get.T21 : Bool × List (List Nat × List Nat) := (true, [([], []), ([0], [0]), ([], []), ([2], [2]), ([], []), ([4], [4]), ([], []), ([6], [6]), ([7], [7]), ([3, 5, 8], [3, 5, 8]), ([9], [9]), ([1, 10], [1, 10]), ([0, 1, 2, 3, 4, 5, 6, 7, 8, 9, 10, 11], []), ([12, 11, 11, 0, 1, 2, 3, 4, 5, 6, 7, 8, 9, 10, 11], [11, 12])])
def homographref11_Get.B21 : List Nat := [0, 1, 0, 4, 0, 16, 0, 64, 192, 508, 1020, 2047, 4095, 8191]
theorem homographref11_Get.tab21 : rtab .any (opsOf Try.f19 21) = homographref11_Get.T21 := by kernel_rfl
theorem homographref11_Get.bits21 : waitsOk homographref11_Get.T21.2 homographref11_Get.B21 = true := by kernel_rfl
set_option maxHeartbeats 8000000 in
set_option maxRecDepth 100000 in
theorem homographref11_Get.calls (k : Nat) (a0 : ByteArray) (r1 : List (S57)) (r2 : Int) (w : World) (h : homographref11_Get.f k a0 = some (r1, r2)) :
    Calls Try.prog 19 #[.string a0] w fun e w' => ∃ v0_ : Value, e = .returned (.tuple #[v0_, .int .i64 r2]) ∧ Kd.S k57 57 w' w.heap.size (fun _ => True) v0_ r1 ∧ Below w.heap.size w w' := by
  have hu57 := Try.underlying57
  have hu59 := Try.underlying59
  have HB := Aside0.mk (Below.refl w.heap.size w)
  have H : (if (a0.size : Int) < 5 then (homographref11_Get.j0 k a0 true) else (if 0 ≤ 4 then (if 4 ≤ (a0.size : Int) then (homographref11_Get.j0 k a0 ((a0.extract 0 4).toList != ([68, 70, 65, 49] : List UInt8))) else (none)) else (none))) = some (r1, r2) := h
  clear h
  have HC2 := Aside0.mk H
  clear H
  go_enter Try.func19, Try.ntmps19
  go_upto_region 1 with (fail)
  go_cut [25] (fun v25 wc => ∃ (kq : Nat) (x25_1 : Bool), v25 = .bool x25_1 ∧ Aside0 (homographref11_Get.j0 kq a0 x25_1 = some (r1, r2)) ∧ Aside0 (kq ≤ k) ∧ Aside0 (Below w.heap.size w wc))
  case first =>
    have H := HC2.out
    clear HC2
    by_cases c3 : (a0.size : Int) < 5
    · rw [if_pos c3] at H
      have c3b0 : decide ((a0.size : Int) < 5) = true := decide_eq_true c3
      have c3b1 : decide (a0.size < 5) = true := decide_eq_true (by omega)
      clear c3
      (first | rw [c3b0] | (simp only [i64_w, i32_w]; rw [c3b0]) | skip)
      have H' := Aside0.mk H
      clear H
      go_wp2
      go_meet
      case rel => exact ⟨_, (true), (by first | rfl | (simp; done) | (simp [*]; done)), H', ⟨by first | omega | exact Nat.le_refl _⟩, ⟨by repeat (first | (with_reducible first | exact HB.out | apply below_alloc | apply pw_below_drewN | apply below_drew1) | exact HB.out)⟩⟩
    · rw [if_neg c3] at H
      have c3b0 : decide ((a0.size : Int) < 5) = false := decide_eq_false c3
      have c3b1 : decide (a0.size < 5) = false := decide_eq_false (by omega)
      clear c3
      (first | rw [c3b0] | (simp only [i64_w, i32_w]; rw [c3b0]) | skip)
      by_cases c4 : 0 ≤ 4
      · rw [if_pos c4] at H
        have c4b0 := eq_true c4
        have c4b1 : decide (0 ≤ 4) = true := decide_eq_true c4
        clear c4
        by_cases c5 : 4 ≤ (a0.size : Int)
        · rw [if_pos c5] at H
          have c5b0 := eq_true c5
          have c5b1 : decide (4 ≤ (a0.size : Int)) = true := decide_eq_true c5
          clear c5
          have H' := Aside0.mk H
          clear H
          go_wp2
          go_meet
          case rel => exact ⟨_, (((a0.extract 0 4).toList != ([68, 70, 65, 49] : List UInt8))), (by first | rfl | (simp; done) | (simp [*]; done)), H', ⟨by first | omega | exact Nat.le_refl _⟩, ⟨by repeat (first | (with_reducible first | exact HB.out | apply below_alloc | apply pw_below_drewN | apply below_drew1) | exact HB.out)⟩⟩
        · rw [if_neg c5] at H
          exact absurd H (by simp)
      · rw [if_neg c4] at H
        exact absurd H (by simp)
  case rest =>
    clear HC2
    try clear c1
    try clear p2
    try clear c3
    try clear c3b0
    try clear c3b1
    try clear c4
    try clear c4b0
    try clear c4b1
    try clear c5
    try clear c5b0
    try clear c5b1
    obtain ⟨kq, x25_1, rfl, HA, HJ1, HB⟩ := hcut
    cases kq with
    | zero => exact absurd HA.out (by simp [homographref11_Get.j0])
    | succ kj1 =>
      have H := HA.out
      clear HA
      simp only [homographref11_Get.j0] at H
      by_cases c6 : x25_1 = true
      · subst c6
        have H1 : (some (([] : List (S57)), 110)) = some (r1, r2) := by rw [if_pos rfl] at H; exact H
        clear H
        have H := H1
        clear H1
        simp only [Option.some.injEq, Prod.mk.injEq] at H
        obtain ⟨rfl, rfl⟩ := H
        go_wp2
        go_ret2
        exact ⟨_, by first | rfl | (simp [errW_none, errW_some] <;> rfl) | (simp [*, errW_none, errW_some] <;> rfl), by first | exact Kd.S_nil _ _ _ _ _ | exact Kd.N_nil _ _ _ _ _ | exact Kd.V_nil _ _ _ _ _ | exact Kd.Q_nil _ _ _ _ _ | exact Kd.R_nil _ _ _ _ _, by repeat (first | (with_reducible first | exact HB.out | apply below_alloc | apply pw_below_drewN | apply below_drew1) | exact HB.out)⟩
      · replace c6 := Bool.eq_false_iff.mpr c6
        subst c6
        have H1 : (if 4 ≤ (a0.size : Int) then ((homographref11_Value.f kj1 (a0.extract 4 a0.size)).bind fun bt166 => (if 0 ≤ bt166.2 then (if bt166.2 ≤ ((a0.extract 4 a0.size).size : Int) then (homographref11_Get.l0 kj1 a0 ((a0.extract 4 a0.size).extract (bt166.2 : Int).toNat (a0.extract 4 a0.size).size) bt166.1 ([] : List (S57)) 0) else (none)) else (none))) else (none)) = some (r1, r2) := by rw [if_neg (show ¬ (false = true) by decide)] at H; exact H
        clear H
        have H := H1
        clear H1
        by_cases c7 : 4 ≤ (a0.size : Int)
        · rw [if_pos c7] at H
          have c7b0 := eq_true c7
          have c7b1 : decide (4 ≤ (a0.size : Int)) = true := decide_eq_true c7
          clear c7
          replace H := Option.bind_eq_some_iff.mp H
          obtain ⟨⟨t166, t167⟩, A80, H⟩ := H
          replace H : (if 0 ≤ t167 then (if t167 ≤ ((a0.extract 4 a0.size).size : Int) then (homographref11_Get.l0 kj1 a0 ((a0.extract 4 a0.size).extract (t167 : Int).toNat (a0.extract 4 a0.size).size) t166 ([] : List (S57)) 0) else (none)) else (none)) = some (r1, r2) := H
          have A8 := Aside0.mk A80
          clear A80
          by_cases c9 : 0 ≤ t167
          · rw [if_pos c9] at H
            have c9b0 := eq_true c9
            have c9b1 : decide (0 ≤ t167) = true := decide_eq_true c9
            clear c9
            by_cases c10 : t167 ≤ ((a0.extract 4 a0.size).size : Int)
            · rw [if_pos c10] at H
              have c10b0 := eq_true c10
              have c10b1 : decide (t167 ≤ ((a0.extract 4 a0.size).size : Int)) = true := decide_eq_true c10
              clear c10
              have H' := Aside0.mk H
              clear H
              go_upto_region 4 with (fail)
              generalize a0.extract 4 a0.size = Y1 at *
              go_wp2_with (first | ((with_reducible refine gate_callee (f := 12) rfl ?_); refine goesL_ (some 30) rfl rfl Try.func12 (by kernel_rfl) rfl #[.string (Y1)] rfl (by (try simp only [List.map_toArray, List.map_cons, List.map_nil]); first | done | rfl | (simp only [List.length_drop, List.length_take]; rfl)) ?_; (with_reducible refine (homographref11_Value.calls kj1 (Y1) t166 t167 _ A8.out).mono ?_); rintro e w11 ⟨rfl, hb⟩; refine ⟨_, rfl, ?_⟩; have n0_ := Aside0.mk (below_step (by repeat (first | (with_reducible first | exact HB.out | apply below_alloc | apply pw_below_drewN | apply below_drew1) | exact HB.out)) hb); clear HB; have HB := n0_; clear n0_; (try clear hb); (try clear hb2); (try clear hk); (try clear hi)))
              go_loopg [4, 7, 8] kj1 (fun kq v4 v7 v8 w' => ∃ (x4_2 : ByteArray) (x7_2 : List (S57)) (x8_2 : Int), v4 = .string x4_2 ∧ v8 = .int .u64 x8_2 ∧ Aside0 (homographref11_Get.l0 kq a0 x4_2 t166 x7_2 x8_2 = some (r1, r2)) ∧ Aside0 (kq ≤ kj1) ∧ Aside0 (Kd.S k57 57 w' w.heap.size (fun _ => True) v7 x7_2) ∧ Aside0 (Below w.heap.size w w'))
              case atStart => exact ⟨((Y1).extract (t167 : Int).toNat (Y1).size), (([] : List (S57))), (0), (by first | rfl | (simp; done) | (simp [*]; done)), (by first | rfl | (simp; done) | (simp [*]; done)), H', ⟨Nat.le_refl _⟩, ⟨by first | exact Kd.S_nil _ _ _ _ _ | exact Kd.N_nil _ _ _ _ _ | exact Kd.V_nil _ _ _ _ _ | exact Kd.Q_nil _ _ _ _ _ | exact Kd.R_nil _ _ _ _ _⟩, ⟨by repeat (first | (with_reducible first | exact HB.out | apply below_alloc | apply pw_below_drewN | apply below_drew1) | exact HB.out)⟩⟩
              case round =>
                clear H'
                try clear c1
                try clear p2
                try clear c3
                try clear c3b0
                try clear c3b1
                try clear c4
                try clear c4b0
                try clear c4b1
                try clear c5
                try clear c5b0
                try clear c5b1
                try clear c6
                try clear c7
                try clear c7b0
                try clear c7b1
                try clear c9
                try clear c9b0
                try clear c9b1
                try clear c10
                try clear c10b0
                try clear c10b1
                try clear p2
                obtain ⟨x4_2, x7_2, x8_2, rfl, rfl, HA, HK2, HO_7, HB⟩ := hrel
                cases gk with
                | zero => exact absurd HA.out (by simp [homographref11_Get.l0])
                | succ k2 =>
                  have H := HA.out
                  clear HA
                  simp only [homographref11_Get.l0] at H
                  have HC12 := Aside0.mk H
                  clear H
                  go_upto_region 8 with (fail)
                  go_cut [42] (fun v42 wc => ∃ (kq : Nat) (x42_11 : Bool), v42 = .bool x42_11 ∧ Aside0 (homographref11_Get.j2 kq a0 x4_2 t166 x7_2 x8_2 x42_11 = some (r1, r2)) ∧ Aside0 (kq ≤ k2) ∧ Aside0 (Kd.S k57 57 wc w.heap.size (fun _ => True) u7 x7_2) ∧ Aside0 (Below w.heap.size w wc))
                  case first =>
                    have H := HC12.out
                    clear HC12
                    by_cases c13 : x8_2 < t166
                    · rw [if_pos c13] at H
                      have c13b0 : decide (x8_2 < t166) = true := decide_eq_true c13
                      clear c13
                      (first | rw [c13b0] | (simp only [i64_w, i32_w]; rw [c13b0]) | skip)
                      have H' := Aside0.mk H
                      clear H
                      go_wp2
                      go_meet
                      case rel => exact ⟨_, (decide (x8_2 ≤ 4096)), (by first | rfl | (simp; done) | (simp [*]; done)), H', ⟨by have := HJ1.out; have := HK2.out; first | omega | exact Nat.le_refl _⟩, ⟨by (with_reducible repeat (first | apply Kd.S_alloc | apply Kd.S_drewN | apply Kd.S_drew)); exact HO_7.out⟩, ⟨by repeat (first | (with_reducible first | exact HB.out | apply below_alloc | apply pw_below_drewN | apply below_drew1) | exact HB.out)⟩⟩
                    · rw [if_neg c13] at H
                      have c13b0 : decide (x8_2 < t166) = false := decide_eq_false c13
                      clear c13
                      (first | rw [c13b0] | (simp only [i64_w, i32_w]; rw [c13b0]) | skip)
                      have H' := Aside0.mk H
                      clear H
                      go_wp2
                      go_meet
                      case rel => exact ⟨_, (false), (by first | rfl | (simp; done) | (simp [*]; done)), H', ⟨by have := HJ1.out; have := HK2.out; first | omega | exact Nat.le_refl _⟩, ⟨by (with_reducible repeat (first | apply Kd.S_alloc | apply Kd.S_drewN | apply Kd.S_drew)); exact HO_7.out⟩, ⟨by repeat (first | (with_reducible first | exact HB.out | apply below_alloc | apply pw_below_drewN | apply below_drew1) | exact HB.out)⟩⟩
                  case rest =>
                    clear HC12
                    try clear c1
                    try clear p2
                    try clear c3
                    try clear c3b0
                    try clear c3b1
                    try clear c4
                    try clear c4b0
                    try clear c4b1
                    try clear c5
                    try clear c5b0
                    try clear c5b1
                    try clear c6
                    try clear c7
                    try clear c7b0
                    try clear c7b1
                    try clear c9
                    try clear c9b0
                    try clear c9b1
                    try clear c10
                    try clear c10b0
                    try clear c10b1
                    try clear c12
                    try clear c13
                    try clear c13b0
                    try clear p2
                    obtain ⟨kq, x42_11, rfl, HA, HJ11, HO_7, HB⟩ := hcut
                    cases kq with
                    | zero => exact absurd HA.out (by simp [homographref11_Get.j2])
                    | succ kj11 =>
                      have H := HA.out
                      clear HA
                      simp only [homographref11_Get.j2] at H
                      by_cases c14 : x42_11 = true
                      · subst c14
                        have H1 : ((homographref11_Value.f kj11 x4_2).bind fun bt171 => (if 0 ≤ bt171.2 then (if bt171.2 ≤ (x4_2.size : Int) then ((homographref11_Value.f kj11 (x4_2.extract (bt171.2 : Int).toNat x4_2.size)).bind fun bt173 => (if 0 ≤ bt173.2 then (if bt173.2 ≤ ((x4_2.extract (bt171.2 : Int).toNat x4_2.size).size : Int) then (homographref11_Get.l1 kj11 a0 ((x4_2.extract (bt171.2 : Int).toNat x4_2.size).extract (bt173.2 : Int).toNat (x4_2.extract (bt171.2 : Int).toNat x4_2.size).size) t166 x7_2 x8_2 bt173.1 0 bt171.1 ([] : List (S59))) else (none)) else (none))) else (none)) else (none))) = some (r1, r2) := by rw [if_pos rfl] at H; exact H
                        clear H
                        have H := H1
                        clear H1
                        replace H := Option.bind_eq_some_iff.mp H
                        obtain ⟨⟨t171, t172⟩, A150, H⟩ := H
                        replace H : (if 0 ≤ t172 then (if t172 ≤ (x4_2.size : Int) then ((homographref11_Value.f kj11 (x4_2.extract (t172 : Int).toNat x4_2.size)).bind fun bt173 => (if 0 ≤ bt173.2 then (if bt173.2 ≤ ((x4_2.extract (t172 : Int).toNat x4_2.size).size : Int) then (homographref11_Get.l1 kj11 a0 ((x4_2.extract (t172 : Int).toNat x4_2.size).extract (bt173.2 : Int).toNat (x4_2.extract (t172 : Int).toNat x4_2.size).size) t166 x7_2 x8_2 bt173.1 0 t171 ([] : List (S59))) else (none)) else (none))) else (none)) else (none)) = some (r1, r2) := H
                        have A15 := Aside0.mk A150
                        clear A150
                        by_cases c16 : 0 ≤ t172
                        · rw [if_pos c16] at H
                          have c16b0 := eq_true c16
                          have c16b1 : decide (0 ≤ t172) = true := decide_eq_true c16
                          clear c16
                          by_cases c17 : t172 ≤ (x4_2.size : Int)
                          · rw [if_pos c17] at H
                            have c17b0 := eq_true c17
                            have c17b1 : decide (t172 ≤ (x4_2.size : Int)) = true := decide_eq_true c17
                            clear c17
                            replace H := Option.bind_eq_some_iff.mp H
                            obtain ⟨⟨t173, t174⟩, A180, H⟩ := H
                            replace H : (if 0 ≤ t174 then (if t174 ≤ ((x4_2.extract (t172 : Int).toNat x4_2.size).size : Int) then (homographref11_Get.l1 kj11 a0 ((x4_2.extract (t172 : Int).toNat x4_2.size).extract (t174 : Int).toNat (x4_2.extract (t172 : Int).toNat x4_2.size).size) t166 x7_2 x8_2 t173 0 t171 ([] : List (S59))) else (none)) else (none)) = some (r1, r2) := H
                            have A18 := Aside0.mk A180
                            clear A180
                            by_cases c19 : 0 ≤ t174
                            · rw [if_pos c19] at H
                              have c19b0 := eq_true c19
                              have c19b1 : decide (0 ≤ t174) = true := decide_eq_true c19
                              clear c19
                              by_cases c20 : t174 ≤ ((x4_2.extract (t172 : Int).toNat x4_2.size).size : Int)
                              · rw [if_pos c20] at H
                                have c20b0 := eq_true c20
                                have c20b1 : decide (t174 ≤ ((x4_2.extract (t172 : Int).toNat x4_2.size).size : Int)) = true := decide_eq_true c20
                                clear c20
                                have H' := Aside0.mk H
                                clear H
                                go_upto_region 15 with (first | ((with_reducible refine gate_dst (N := 9) rfl ?_); (try (refine gate_guard (by rfl) ?_; dsimp only)); refine box_event ?hg (N := 9) ?hd (cs := #[.int .u64 0, .slice none 0 0]) (t := 57) ?hr ?_; (case hd => rfl); (case hg => rfl); (case hr => first | (go_simp; done) | (go_simp; rfl)); intro gb170 hg w21 hbox hb; have n0_ := Aside0.mk (Kd.S_below (Kd.S_elderB (by (with_reducible repeat (first | apply Kd.S_alloc | apply Kd.S_drewN | apply Kd.S_drew)); exact HO_7.out) gb170 (Nat.le_of_eq hg.symm)) hb); have n1_ := Aside0.mk (below_step (by repeat (first | (with_reducible first | exact HB.out | apply below_alloc | apply pw_below_drewN | apply below_drew1) | exact HB.out)) hb); have n2_ := Aside0.mk (hbox); have n3_ := Aside0.mk ((by rw [hg]; exact (below_size (by repeat (first | (with_reducible first | exact HB.out | apply below_alloc | apply pw_below_drewN | apply below_drew1) | exact HB.out))) : w.heap.size ≤ gb170)); have n4_ := Aside0.mk ((by rw [hg]; exact (below_size (by repeat (first | (with_reducible first | exact HB.out | apply below_alloc | apply pw_below_drewN | apply below_drew1) | exact HB.out))) : w.heap.size ≤ gb170)); clear HO_7; clear HB; have HO_7 := n0_; have HB := n1_; have BK170 := n2_; have GW170 := n3_; have GE170 := n4_; clear n0_ n1_ n2_ n3_ n4_; clear hb hbox hg) | ((with_reducible refine gate_callee (f := 12) rfl ?_); refine goesL_ (some 47) rfl rfl Try.func12 (by kernel_rfl) rfl #[.string x4_2] rfl (by (try simp only [List.map_toArray, List.map_cons, List.map_nil]); first | done | rfl | (simp only [List.length_drop, List.length_take]; rfl)) ?_; (with_reducible refine (homographref11_Value.calls kj11 x4_2 t171 t172 _ A15.out).mono ?_); rintro e w22 ⟨rfl, hb⟩; refine ⟨_, rfl, ?_⟩; have n0_ := Aside0.mk (Kd.S_below (by (with_reducible repeat (first | apply Kd.S_alloc | apply Kd.S_drewN | apply Kd.S_drew)); exact HO_7.out) hb); have n1_ := Aside0.mk (blk_below (g := gb170) (o := .cells #[.int .u64 0, .slice none 0 0] 57 (0, 0)) (by (with_reducible repeat (first | refine blk_drewN ?_ _ | refine blk_drew ?_ | refine blk_alloc ?_ _)); exact BK170.out) hb); have n2_ := Aside0.mk (below_step (by repeat (first | (with_reducible first | exact HB.out | apply below_alloc | apply pw_below_drewN | apply below_drew1 | refine below_set ?_ GE170.out) | exact HB.out)) hb); clear HO_7; clear BK170; clear HB; have HO_7 := n0_; have BK170 := n1_; have HB := n2_; clear n0_ n1_ n2_; (try clear hb); (try clear hb2); (try clear hk); (try clear hi); have hcz23_0 : w22.cell? ⟨gb170, 0, none⟩ = some (.int .u64 0) := (blk_cell BK170.out 0).trans rfl; have hcz23_1 : w22.cell? ⟨gb170, 1, none⟩ = some (.slice none 0 0) := (blk_cell BK170.out 1).trans rfl; have hfz23_0 := blk_frozen BK170.out 0; have hfz23_1 := blk_frozen BK170.out 1) | ((with_reducible refine gate_callee (f := 12) rfl ?_); refine goesL_ (some 57) rfl rfl Try.func12 (by kernel_rfl) rfl #[.string (x4_2.extract (t172 : Int).toNat x4_2.size)] rfl (by (try simp only [List.map_toArray, List.map_cons, List.map_nil]); first | done | rfl | (simp only [List.length_drop, List.length_take]; rfl)) ?_; (with_reducible refine (homographref11_Value.calls kj11 (x4_2.extract (t172 : Int).toNat x4_2.size) t173 t174 _ A18.out).mono ?_); rintro e w24 ⟨rfl, hb⟩; refine ⟨_, rfl, ?_⟩; have n0_ := Aside0.mk (Kd.S_below (by (with_reducible repeat (first | apply Kd.S_alloc | apply Kd.S_drewN | apply Kd.S_drew)); exact (Kd.S_mono (Kd.S_far (p := ⟨gb170, 0, none⟩) (Kd.S_mono HO_7.out (fun k_ hk => (⟨hk, hk.2⟩ : _ ∧ k_ ≠ gb170))) (fun _ hk => hk.2) (.int .u64 t171)) (fun _ h_ => h_.1))) hb); have n1_ := Aside0.mk (blk_below (g := gb170) (o := .cells #[.int .u64 t171, .slice none 0 0] 57 (0, 0)) (by (with_reducible repeat (first | refine blk_drewN ?_ _ | refine blk_drew ?_ | refine blk_alloc ?_ _)); refine blk_put (cs := #[.int .u64 0, .slice none 0 0]) ?_ 0 _ rfl; (with_reducible repeat (first | refine blk_drewN ?_ _ | refine blk_drew ?_ | refine blk_alloc ?_ _)); exact BK170.out) hb); have n2_ := Aside0.mk (below_step (by repeat (first | (with_reducible first | exact HB.out | apply below_alloc | apply pw_below_drewN | apply below_drew1 | refine below_set ?_ GE170.out) | exact HB.out)) hb); clear HO_7; clear BK170; clear HB; have HO_7 := n0_; have BK170 := n1_; have HB := n2_; clear n0_ n1_ n2_; (try clear hb); (try clear hb2); (try clear hk); (try clear hi)))
                                generalize x4_2.extract t172.toNat x4_2.size = Y2 at *
                                go_wp2_with (first | ((with_reducible refine gate_dst (N := 9) rfl ?_); (try (refine gate_guard (by rfl) ?_; dsimp only)); refine box_event ?hg (N := 9) ?hd (cs := #[.int .u64 0, .slice none 0 0]) (t := 57) ?hr ?_; (case hd => rfl); (case hg => rfl); (case hr => first | (go_simp; done) | (go_simp; rfl)); intro gb170 hg w21 hbox hb; have n0_ := Aside0.mk (Kd.S_below (Kd.S_elderB (by (with_reducible repeat (first | apply Kd.S_alloc | apply Kd.S_drewN | apply Kd.S_drew)); exact HO_7.out) gb170 (Nat.le_of_eq hg.symm)) hb); have n1_ := Aside0.mk (below_step (by repeat (first | (with_reducible first | exact HB.out | apply below_alloc | apply pw_below_drewN | apply below_drew1) | exact HB.out)) hb); have n2_ := Aside0.mk (hbox); have n3_ := Aside0.mk ((by rw [hg]; exact (below_size (by repeat (first | (with_reducible first | exact HB.out | apply below_alloc | apply pw_below_drewN | apply below_drew1) | exact HB.out))) : w.heap.size ≤ gb170)); have n4_ := Aside0.mk ((by rw [hg]; exact (below_size (by repeat (first | (with_reducible first | exact HB.out | apply below_alloc | apply pw_below_drewN | apply below_drew1) | exact HB.out))) : w.heap.size ≤ gb170)); clear HO_7; clear HB; have HO_7 := n0_; have HB := n1_; have BK170 := n2_; have GW170 := n3_; have GE170 := n4_; clear n0_ n1_ n2_ n3_ n4_; clear hb hbox hg) | ((with_reducible refine gate_callee (f := 12) rfl ?_); refine goesL_ (some 47) rfl rfl Try.func12 (by kernel_rfl) rfl #[.string x4_2] rfl (by (try simp only [List.map_toArray, List.map_cons, List.map_nil]); first | done | rfl | (simp only [List.length_drop, List.length_take]; rfl)) ?_; (with_reducible refine (homographref11_Value.calls kj11 x4_2 t171 t172 _ A15.out).mono ?_); rintro e w22 ⟨rfl, hb⟩; refine ⟨_, rfl, ?_⟩; have n0_ := Aside0.mk (Kd.S_below (by (with_reducible repeat (first | apply Kd.S_alloc | apply Kd.S_drewN | apply Kd.S_drew)); exact HO_7.out) hb); have n1_ := Aside0.mk (blk_below (g := gb170) (o := .cells #[.int .u64 0, .slice none 0 0] 57 (0, 0)) (by (with_reducible repeat (first | refine blk_drewN ?_ _ | refine blk_drew ?_ | refine blk_alloc ?_ _)); exact BK170.out) hb); have n2_ := Aside0.mk (below_step (by repeat (first | (with_reducible first | exact HB.out | apply below_alloc | apply pw_below_drewN | apply below_drew1 | refine below_set ?_ GE170.out) | exact HB.out)) hb); clear HO_7; clear BK170; clear HB; have HO_7 := n0_; have BK170 := n1_; have HB := n2_; clear n0_ n1_ n2_; (try clear hb); (try clear hb2); (try clear hk); (try clear hi); have hcz23_0 : w22.cell? ⟨gb170, 0, none⟩ = some (.int .u64 0) := (blk_cell BK170.out 0).trans rfl; have hcz23_1 : w22.cell? ⟨gb170, 1, none⟩ = some (.slice none 0 0) := (blk_cell BK170.out 1).trans rfl; have hfz23_0 := blk_frozen BK170.out 0; have hfz23_1 := blk_frozen BK170.out 1) | ((with_reducible refine gate_callee (f := 12) rfl ?_); refine goesL_ (some 57) rfl rfl Try.func12 (by kernel_rfl) rfl #[.string (Y2)] rfl (by (try simp only [List.map_toArray, List.map_cons, List.map_nil]); first | done | rfl | (simp only [List.length_drop, List.length_take]; rfl)) ?_; (with_reducible refine (homographref11_Value.calls kj11 (Y2) t173 t174 _ A18.out).mono ?_); rintro e w24 ⟨rfl, hb⟩; refine ⟨_, rfl, ?_⟩; have n0_ := Aside0.mk (Kd.S_below (by (with_reducible repeat (first | apply Kd.S_alloc | apply Kd.S_drewN | apply Kd.S_drew)); exact (Kd.S_mono (Kd.S_far (p := ⟨gb170, 0, none⟩) (Kd.S_mono HO_7.out (fun k_ hk => (⟨hk, hk.2⟩ : _ ∧ k_ ≠ gb170))) (fun _ hk => hk.2) (.int .u64 t171)) (fun _ h_ => h_.1))) hb); have n1_ := Aside0.mk (blk_below (g := gb170) (o := .cells #[.int .u64 t171, .slice none 0 0] 57 (0, 0)) (by (with_reducible repeat (first | refine blk_drewN ?_ _ | refine blk_drew ?_ | refine blk_alloc ?_ _)); refine blk_put (cs := #[.int .u64 0, .slice none 0 0]) ?_ 0 _ rfl; (with_reducible repeat (first | refine blk_drewN ?_ _ | refine blk_drew ?_ | refine blk_alloc ?_ _)); exact BK170.out) hb); have n2_ := Aside0.mk (below_step (by repeat (first | (with_reducible first | exact HB.out | apply below_alloc | apply pw_below_drewN | apply below_drew1 | refine below_set ?_ GE170.out) | exact HB.out)) hb); clear HO_7; clear BK170; clear HB; have HO_7 := n0_; have BK170 := n1_; have HB := n2_; clear n0_ n1_ n2_; (try clear hb); (try clear hb2); (try clear hk); (try clear hi)))
                                go_loopg [4, 13] kj11 (fun kq v4 v13 w' => ∃ (x4_4 : ByteArray) (x13_4 : Int) (x171001_4 : List (S59)) (u171001 : Value), v4 = .string x4_4 ∧ v13 = .int .u64 x13_4 ∧ Aside0 (homographref11_Get.l1 kq a0 x4_4 t166 x7_2 x8_2 t173 x13_4 t171 x171001_4 = some (r1, r2)) ∧ Aside0 (kq ≤ kj11) ∧ Aside0 (Kd.S k57 57 w' w.heap.size (fun k_ => some k_ ≠ (u171001 : Value).ownBlock ∧ k_ ≠ gb170) u7 x7_2) ∧ Aside0 (Kd.R k59 59 w' w.heap.size (fun _ => True) u171001 x171001_4) ∧ Aside0 (w'.heap[gb170]? = some (.cells #[.int .u64 t171, u171001] 57 (0, 0))) ∧ Aside0 (Below w.heap.size w w'))
                                case atStart => exact ⟨((Y2).extract (t174 : Int).toNat (Y2).size), (0), (([] : List (S59))), (.slice none 0 0), (by first | rfl | (simp; done) | (simp [*]; done)), (by first | rfl | (simp; done) | (simp [*]; done)), H', ⟨Nat.le_refl _⟩, ⟨by (with_reducible repeat (first | apply Kd.S_alloc | apply Kd.S_drewN | apply Kd.S_drew)); exact Kd.S_mono HO_7.out (fun _ hk => ⟨(by simp [Value.ownBlock]), hk.2⟩)⟩, ⟨by first | exact Kd.R_nil _ _ _ _ _ | exact Kd.N_nil _ _ _ _ _ | exact Kd.V_nil _ _ _ _ _ | exact Kd.Q_nil _ _ _ _ _ | exact Kd.S_nil _ _ _ _ _⟩, ⟨by (with_reducible repeat (first | refine blk_drewN ?_ _ | refine blk_drew ?_ | refine blk_alloc ?_ _)); exact BK170.out⟩, ⟨by repeat (first | (with_reducible first | exact HB.out | apply below_alloc | apply pw_below_drewN | apply below_drew1 | refine below_set ?_ GE170.out) | exact HB.out)⟩⟩
                                case round =>
                                  clear H'
                                  try clear c1
                                  try clear c2
                                  try clear p2
                                  try clear c3
                                  try clear c3b0
                                  try clear c3b1
                                  try clear c4
                                  try clear c4b0
                                  try clear c4b1
                                  try clear c5
                                  try clear c5b0
                                  try clear c5b1
                                  try clear c6
                                  try clear c7
                                  try clear c7b0
                                  try clear c7b1
                                  try clear c9
                                  try clear c9b0
                                  try clear c9b1
                                  try clear c10
                                  try clear c10b0
                                  try clear c10b1
                                  try clear c12
                                  try clear c13
                                  try clear c13b0
                                  try clear c14
                                  try clear c16
                                  try clear c16b0
                                  try clear c16b1
                                  try clear c17
                                  try clear c17b0
                                  try clear c17b1
                                  try clear c19
                                  try clear c19b0
                                  try clear c19b1
                                  try clear c20
                                  try clear c20b0
                                  try clear c20b1
                                  try clear hcz23_0
                                  try clear hcz23_1
                                  try clear hfz23_0
                                  try clear hfz23_1
                                  try clear p2
                                  obtain ⟨x4_4, x13_4, x171001_4, u171001, rfl, rfl, HA, HK4, HO_7, HO_171001, BK170, HB⟩ := hrel
                                  cases gk with
                                  | zero => exact absurd HA.out (by simp [homographref11_Get.l1])
                                  | succ k4 =>
                                    have H := HA.out
                                    clear HA
                                    simp only [homographref11_Get.l1] at H
                                    by_cases c25 : x13_4 < t173
                                    · rw [if_pos c25] at H
                                      have c25b0 : decide (x13_4 < t173) = true := decide_eq_true c25
                                      clear c25
                                      by_cases c26 : x13_4 < 256
                                      · rw [if_pos c26] at H
                                        have c26b0 : decide (x13_4 < 256) = true := decide_eq_true c26
                                        clear c26
                                        by_cases c27 : (x4_4.size : Int) > 2
                                        · rw [if_pos c27] at H
                                          have c27b0 : decide (2 < (x4_4.size : Int)) = true := decide_eq_true c27
                                          have c27b1 : decide (2 < x4_4.size) = true := decide_eq_true (by omega)
                                          clear c27
                                          by_cases c28 : 2 ≤ (x4_4.size : Int)
                                          · rw [if_pos c28] at H
                                            have c28b0 := eq_true c28
                                            have c28b1 : decide (2 ≤ (x4_4.size : Int)) = true := decide_eq_true c28
                                            clear c28
                                            replace H := Option.bind_eq_some_iff.mp H
                                            obtain ⟨⟨t175, t176⟩, A290, H⟩ := H
                                            replace H : (if 0 < (x4_4.size : Int) then (if 1 < (x4_4.size : Int) then (if x171001_4.length < 8796093022208 then (if 0 ≤ (wrap64 (2 + t176)) then (if (wrap64 (2 + t176)) ≤ (x4_4.size : Int) then (homographref11_Get.l1 k4 a0 (x4_4.extract ((wrap64 (2 + t176)) : Int).toNat x4_4.size) t166 x7_2 x8_2 t173 (IntKind.u64.wrap (x13_4 + 1)) t171 (x171001_4 ++ [(⟨bt x4_4 0, bt x4_4 1, wrap64 (mn t175 4096)⟩ : S59)])) else (none)) else (none)) else (none)) else (none)) else (none)) = some (r1, r2) := H
                                            have A29 := Aside0.mk A290
                                            clear A290
                                            by_cases c30 : 0 < (x4_4.size : Int)
                                            · rw [if_pos c30] at H
                                              have c30b0 : decide (0 < (x4_4.size : Int)) = true := decide_eq_true c30
                                              have c30b1 : decide (0 < x4_4.size) = true := decide_eq_true (by omega)
                                              clear c30
                                              by_cases c32 : 1 < (x4_4.size : Int)
                                              · rw [if_pos c32] at H
                                                have c32b0 : decide (1 < (x4_4.size : Int)) = true := decide_eq_true c32
                                                have c32b1 : decide (1 < x4_4.size) = true := decide_eq_true (by omega)
                                                clear c32
                                                obtain ⟨ji34, hji34⟩ : ∃ j_ : Int, (mn t175 4096) = j_ := ⟨_, rfl⟩
                                                replace H : (if x171001_4.length < 8796093022208 then (if 0 ≤ (wrap64 (2 + t176)) then (if (wrap64 (2 + t176)) ≤ (x4_4.size : Int) then (homographref11_Get.l1 k4 a0 (x4_4.extract ((wrap64 (2 + t176)) : Int).toNat x4_4.size) t166 x7_2 x8_2 t173 (IntKind.u64.wrap (x13_4 + 1)) t171 (x171001_4 ++ [(⟨bt x4_4 0, bt x4_4 1, wrap64 (ji34)⟩ : S59)])) else (none)) else (none)) else (none)) = some (r1, r2) := by first | (rw [hji34] at H; exact H) | (simp only [hji34] at H ⊢; exact H)
                                                (try rw [hji34] at A29)
                                                (try (have hji34h : ji34 ≤ 4096 := by (rw [← hji34]; unfold mn; (repeat' split) <;> omega)))
                                                (try (have hji34g : ji34 ≤ 64 := by omega))
                                                have hji34_ : (if 4096 < t175 then 4096 else t175) = ji34 := hji34
                                                by_cases c35 : x171001_4.length < 8796093022208
                                                · rw [if_pos c35] at H
                                                  have LMc35 := Aside0.mk c35
                                                  clear c35
                                                  obtain ⟨y177, hy177⟩ : ∃ y_ : List (S59), y_ = (x171001_4 ++ [(⟨bt x4_4 0, bt x4_4 1, wrap64 (ji34)⟩ : S59)]) := ⟨_, rfl⟩
                                                  replace H : (if 0 ≤ (wrap64 (2 + t176)) then (if (wrap64 (2 + t176)) ≤ (x4_4.size : Int) then (homographref11_Get.l1 k4 a0 (x4_4.extract ((wrap64 (2 + t176)) : Int).toNat x4_4.size) t166 x7_2 x8_2 t173 (IntKind.u64.wrap (x13_4 + 1)) t171 y177) else (none)) else (none)) = some (r1, r2) := by first | (rw [hy177]; with_reducible exact H) | (have H2_ := (Option.bind_some _ _).symm.trans H; rw [hy177]; with_reducible exact H2_) | (have H2_ := (Option.bind_some _ _).symm.trans H; with_reducible exact H2_) | with_reducible exact H | (rw [hy177]; exact H) | exact H
                                                  have Ny177 := Aside0.mk hy177
                                                  clear hy177
                                                  obtain ⟨ji36, hji36⟩ : ∃ j_ : Int, (wrap64 (2 + t176)) = j_ := ⟨_, rfl⟩
                                                  replace H : (if 0 ≤ (ji36) then (if (ji36) ≤ (x4_4.size : Int) then (homographref11_Get.l1 k4 a0 (x4_4.extract ((ji36) : Int).toNat x4_4.size) t166 x7_2 x8_2 t173 (IntKind.u64.wrap (x13_4 + 1)) t171 y177) else (none)) else (none)) = some (r1, r2) := by first | (rw [hji36] at H; exact H) | (simp only [hji36] at H ⊢; exact H)
                                                  (try rw [hji36] at A29)
                                                  have hji36w : (IntKind.i64.wrap (2 + t176)) = ji36 := (i64_w _).trans hji36
                                                  by_cases c37 : 0 ≤ (ji36)
                                                  · rw [if_pos c37] at H
                                                    have c37b0 := eq_true c37
                                                    have c37b1 : decide (0 ≤ (ji36)) = true := decide_eq_true c37
                                                    clear c37
                                                    by_cases c38 : (ji36) ≤ (x4_4.size : Int)
                                                    · rw [if_pos c38] at H
                                                      have c38b0 := eq_true c38
                                                      have c38b1 : decide ((ji36) ≤ (x4_4.size : Int)) = true := decide_eq_true c38
                                                      clear c38
                                                      have H' := Aside0.mk H
                                                      clear H
                                                      try go_wp2_with (first | ((with_reducible refine gate_callee (f := 12) rfl ?_); refine goesL_ (some 80) rfl rfl Try.func12 (by kernel_rfl) rfl #[.string (x4_4.extract 2 x4_4.size)] rfl (by (try simp only [List.map_toArray, List.map_cons, List.map_nil]); first | done | rfl | (simp only [List.length_drop, List.length_take]; rfl)) ?_; (with_reducible refine (homographref11_Value.calls k4 (x4_4.extract 2 x4_4.size) t175 t176 _ A29.out).mono ?_); rintro e w39 ⟨rfl, hb⟩; refine ⟨_, rfl, ?_⟩; have n0_ := Aside0.mk (Kd.S_below (by (with_reducible repeat (first | apply Kd.S_alloc | apply Kd.S_drewN | apply Kd.S_drew)); exact HO_7.out) hb); have n1_ := Aside0.mk (Kd.R_below (by (with_reducible repeat (first | apply Kd.R_alloc | apply Kd.R_drewN | apply Kd.R_drew)); exact HO_171001.out) hb); have n2_ := Aside0.mk (blk_below (g := gb170) (o := .cells #[.int .u64 t171, u171001] 57 (0, 0)) (by (with_reducible repeat (first | refine blk_drewN ?_ _ | refine blk_drew ?_ | refine blk_alloc ?_ _)); exact BK170.out) hb); have n3_ := Aside0.mk (below_step (by repeat (first | (with_reducible first | exact HB.out | apply below_alloc | apply pw_below_drewN | apply below_drew1 | refine below_set ?_ GE170.out) | exact HB.out)) hb); clear HO_7; clear HO_171001; clear BK170; clear HB; have HO_7 := n0_; have HO_171001 := n1_; have BK170 := n2_; have HB := n3_; clear n0_ n1_ n2_ n3_; (try clear hb); (try clear hb2); (try clear hk); (try clear hi)))
                                                      have n0_ := Aside0.mk (Kd.S_drew HO_7.out)
                                                      have n1_ := Aside0.mk (Kd.R_drew HO_171001.out)
                                                      have n2_ := Aside0.mk (blk_drew BK170.out)
                                                      have n3_ := Aside0.mk (below_drew1 HB.out)
                                                      clear HO_7
                                                      clear HO_171001
                                                      clear BK170
                                                      clear HB
                                                      have HO_7 := n0_
                                                      have HO_171001 := n1_
                                                      have BK170 := n2_
                                                      have HB := n3_
                                                      clear n0_ n1_ n2_ n3_
                                                      have p31 : 0 ≤ (0 : Int) := (by omega)
                                                      have q31 : 0 < x4_4.size := (by have : (0 : Int) < (x4_4.size : Int) := of_decide_eq_true (by first | (with_reducible assumption) | assumption); omega)
                                                      have hx31 : ∀ h : 0 < x4_4.size, ((x4_4[0]'h).toNat : Int) = bt x4_4 0 := bt_at x4_4 0
                                                      clear p31
                                                      have qi31 : (0 < (x4_4.size : Int)) = True := eq_true (of_decide_eq_true (by first | (with_reducible assumption) | assumption))
                                                      replace q31 := eq_true q31
                                                      have p33 : 0 ≤ (1 : Int) := (by omega)
                                                      have q33 : 1 < x4_4.size := (by have : (1 : Int) < (x4_4.size : Int) := of_decide_eq_true (by first | (with_reducible assumption) | assumption); omega)
                                                      have hx33 : ∀ h : 1 < x4_4.size, ((x4_4[1]'h).toNat : Int) = bt x4_4 1 := bt_at x4_4 1
                                                      clear p33
                                                      have qi33 : (1 < (x4_4.size : Int)) = True := eq_true (of_decide_eq_true (by first | (with_reducible assumption) | assumption))
                                                      replace q33 := eq_true q33
                                                      refine start_ (n := 14) (S := fun w' => w'.cell? ⟨gb170, 0, none⟩ = some (.int .u64 t171) ∧ w'.cell? ⟨gb170, 1, none⟩ = some (u171001)) (ds := [13]) #[false, false, false, false, false, false, false, false, false, false, false, false, false, false] (by kernel_rfl) rfl rfl ⟨(blk_cell BK170.out 0).trans rfl, (blk_cell BK170.out 1).trans rfl⟩ (fun hHeld => ?_); refine with_tabW homographref11_Get.tab21 homographref11_Get.bits21 (fun HT_ HW_ => ?_)
                                                      generalize w39.drew = w40 at HO_7 HO_171001 BK170 HB hHeld ⊢
                                                      refine pure_ (i := 0) (N := some 83) (v := ?_) (a' := ?_) #[true, false, false, false, false, false, false, false, false, false, false, false, false, false] rfl rfl (any_of HT_.out (by kernel_rfl)) (fun _ _ _ h => h) (Or.inl ⟨by rfl, ?_⟩) ?_ ?_
                                                      rotate_left
                                                      · intro w'
                                                        go_simp
                                                        with_reducible rfl
                                                      rotate_left
                                                      · simp only [Act.put, List.setIfInBounds_toArray, List.set_cons_zero, List.set_cons_succ, i64_w, i32_w]
                                                        rfl
                                                      refine pure_ (i := 2) (N := some 85) (v := ?_) (a' := ?_) #[true, false, true, false, false, false, false, false, false, false, false, false, false, false] rfl rfl (any_of HT_.out (by kernel_rfl)) (fun _ _ _ h => h) (Or.inl ⟨by rfl, ?_⟩) ?_ ?_
                                                      rotate_left
                                                      · intro w'
                                                        go_simp
                                                        with_reducible rfl
                                                      rotate_left
                                                      · simp only [Act.put, List.setIfInBounds_toArray, List.set_cons_zero, List.set_cons_succ, i64_w, i32_w]
                                                        rfl
                                                      refine pure_ (i := 4) (N := some 87) (v := ?_) (a' := ?_) #[true, false, true, false, true, false, false, false, false, false, false, false, false, false] rfl rfl (any_of HT_.out (by kernel_rfl)) (fun _ _ _ h => h) (Or.inl ⟨by rfl, ?_⟩) ?_ ?_
                                                      rotate_left
                                                      · intro w'
                                                        go_simp
                                                        with_reducible rfl
                                                      rotate_left
                                                      · simp only [Act.put, List.setIfInBounds_toArray, List.set_cons_zero, List.set_cons_succ, i64_w, i32_w]
                                                        rfl
                                                      refine pure_ (i := 6) (N := some 89) (v := ?_) (a' := ?_) #[true, false, true, false, true, false, true, false, false, false, false, false, false, false] rfl rfl (any_of HT_.out (by kernel_rfl)) (fun _ _ _ h => h) (Or.inl ⟨by rfl, ?_⟩) ?_ ?_
                                                      rotate_left
                                                      · intro w'
                                                        go_simp
                                                        with_reducible rfl
                                                      rotate_left
                                                      · simp only [Act.put, List.setIfInBounds_toArray, List.set_cons_zero, List.set_cons_succ, i64_w, i32_w]
                                                        rfl
                                                      refine pure_ (i := 7) (N := some 90) (v := ?_) (a' := ?_) #[true, false, true, false, true, false, true, true, false, false, false, false, false, false] rfl rfl (any_of HT_.out (by kernel_rfl)) (fun _ _ _ h => h) (Or.inl ⟨by rfl, ?_⟩) ?_ ?_
                                                      rotate_left
                                                      · intro w'
                                                        go_simp
                                                        with_reducible rfl
                                                      rotate_left
                                                      · simp only [Act.put, List.setIfInBounds_toArray, List.set_cons_zero, List.set_cons_succ, i64_w, i32_w]
                                                        rfl
                                                      refine pure_ (i := 8) (N := some 91) (v := ?_) (a' := ?_) #[true, false, true, false, true, false, true, true, true, false, false, false, false, false] rfl rfl (any_of HT_.out (by kernel_rfl)) (fun _ _ _ h => h) (Or.inl ⟨by rfl, ?_⟩) ?_ ?_
                                                      rotate_left
                                                      · intro w'
                                                        go_simp
                                                        with_reducible rfl
                                                      rotate_left
                                                      · simp only [Act.put, List.setIfInBounds_toArray, List.set_cons_zero, List.set_cons_succ, i64_w, i32_w]
                                                        rfl
                                                      refine take_ (i := 1) (N := some 84) (v := ?_) (a' := ?_) #[true, true, true, false, true, false, true, true, true, false, false, false, false, false] rfl rfl (take_ofW HT_.out HW_.out (by kernel_rfl)) (fun _ _ _ h => h) (Or.inl ⟨by rfl, ?_⟩) hHeld ?_ ?_
                                                      rotate_left
                                                      · rintro w' ⟨s0, s1⟩
                                                        go_simp
                                                        with_reducible rfl
                                                      rotate_left
                                                      · simp only [Act.put, List.setIfInBounds_toArray, List.set_cons_zero, List.set_cons_succ, i64_w, i32_w]
                                                        rfl
                                                      refine take_ (i := 3) (N := some 86) (v := ?_) (a' := ?_) #[true, true, true, true, true, false, true, true, true, false, false, false, false, false] rfl rfl (take_ofW HT_.out HW_.out (by kernel_rfl)) (fun _ _ _ h => h) (Or.inl ⟨by rfl, ?_⟩) hHeld ?_ ?_
                                                      rotate_left
                                                      · rintro w' ⟨s0, s1⟩
                                                        go_simp
                                                        with_reducible rfl
                                                      rotate_left
                                                      · simp only [Act.put, List.setIfInBounds_toArray, List.set_cons_zero, List.set_cons_succ, i64_w, i32_w]
                                                        rfl
                                                      refine take_ (i := 5) (N := some 88) (v := ?_) (a' := ?_) #[true, true, true, true, true, true, true, true, true, false, false, false, false, false] rfl rfl (take_ofW HT_.out HW_.out (by kernel_rfl)) (fun _ _ _ h => h) (Or.inl ⟨by rfl, ?_⟩) hHeld ?_ ?_
                                                      rotate_left
                                                      · rintro w' ⟨s0, s1⟩
                                                        go_simp
                                                        with_reducible rfl
                                                      rotate_left
                                                      · simp only [Act.put, List.setIfInBounds_toArray, List.set_cons_zero, List.set_cons_succ, i64_w, i32_w]
                                                        rfl
                                                      refine pure_ (i := 9) (N := some 92) (v := ?_) (a' := ?_) #[true, true, true, true, true, true, true, true, true, true, false, false, false, false] rfl rfl (any_of HT_.out (by kernel_rfl)) (fun _ _ _ h => h) (Or.inl ⟨by rfl, ?_⟩) ?_ ?_
                                                      rotate_left
                                                      · intro w'
                                                        go_simp
                                                        with_reducible rfl
                                                      rotate_left
                                                      · simp only [Act.put, List.setIfInBounds_toArray, List.set_cons_zero, List.set_cons_succ, i64_w, i32_w]
                                                        rfl
                                                      refine one_ (i := 10) (N := some 93) #[true, true, true, true, true, true, true, true, true, true, true, false, false, false] rfl rfl (one_of HT_.out (by kernel_rfl)) (by decide) (fun K hK => ?_)
                                                      refine value_ (w1 := ?_) (v := ?_) (by rfl) rfl ?_ ?_
                                                      rotate_left 2
                                                      · go_simp
                                                        constructor
                                                        · rfl
                                                        · rfl
                                                      refine hK.out _ _ ⟨(blk_cell (blk_alloc BK170.out _) 0).trans rfl, (blk_cell (blk_alloc BK170.out _) 1).trans rfl⟩ (fun hHeld => ?_)
                                                      clear hK K
                                                      refine norm_ (a' := ?_) ?_ ?_
                                                      rotate_left
                                                      · show Act.put _ (some 93) _ = _
                                                        simp only [Act.put, List.setIfInBounds_toArray, List.set_cons_zero, List.set_cons_succ, i64_w, i32_w]
                                                        rfl
                                                      refine one_ (i := 11) (N := some 94) #[true, true, true, true, true, true, true, true, true, true, true, true, false, false] rfl rfl (one_of HT_.out (by kernel_rfl)) (by decide) (fun K hK => ?_)
                                                      refine Kd.R_append_step k59 (w0 := w) w.heap.size (by rfl) (.tmp 84) (.tmp 93) 55 59 (.agg #[(.int .u8 0), (.int .u8 0), (.int .i64 0)]) 16 rfl Try.underlying55 info59 rfl (by decide) (by omega) u171001 x171001_4 (⟨bt x4_4 0, bt x4_4 1, wrap64 (ji34)⟩ : S59) [.int .u8 (bt x4_4 0), .int .u8 (bt x4_4 1), .int .i64 (wrap64 (ji34))] (fun _ => True) (fun _ => False) rfl rfl ?aP (fun _ hk => hk.elim) ?aF ?aO ?aB ?aS ?aL ?_
                                                      (case aP => exact k59_mkM _ _ _ (⟨bt x4_4 0, bt x4_4 1, wrap64 (ji34)⟩ : S59))
                                                      (case aB => exact (by repeat (first | (with_reducible first | exact HB.out | apply below_alloc | apply pw_below_drewN | apply below_drew1 | refine below_set ?_ GE170.out) | exact HB.out)))
                                                      (case aF => exact (fun _ _ => trivial))
                                                      (case aO => exact (by (with_reducible repeat (first | apply Kd.R_alloc | apply Kd.R_drewN | apply Kd.R_drew)); exact HO_171001.out))
                                                      (case aS => exact (below_size (by repeat (first | (with_reducible first | exact HB.out | apply below_alloc | apply pw_below_drewN | apply below_drew1 | refine below_set ?_ GE170.out) | exact HB.out))))
                                                      (case aL => have := LMc35.out; omega)
                                                      intro v178 w41 ho hb hg hat
                                                      rw [← Ny177.out] at ho
                                                      have n0_ := Aside0.mk (Kd.S_after (ok := (fun k_ => k_ ≠ gb170)) (by (with_reducible repeat (first | apply Kd.S_alloc | apply Kd.S_drewN | apply Kd.S_drew)); exact Kd.S_mono HO_7.out (fun _ hk => ⟨hk.2, hk.1⟩)) hg hat)
                                                      have n1_ := Aside0.mk (blk_grown (g := gb170) (o := .cells #[.int .u64 t171, u171001] 57 (0, 0)) (by (with_reducible repeat (first | refine blk_drewN ?_ _ | refine blk_drew ?_ | refine blk_alloc ?_ _)); exact BK170.out) hg (Kd.R_ne HO_171001.out BK170.out (by decide)))
                                                      have n2_ := Aside0.mk (hb)
                                                      have n3_ := Aside0.mk (ho)
                                                      clear HO_7
                                                      clear BK170
                                                      clear HB
                                                      clear HO_171001
                                                      have HO_7 := n0_
                                                      have BK170 := n1_
                                                      have HB := n2_
                                                      have HO179 := n3_
                                                      clear n0_ n1_ n2_ n3_
                                                      clear ho hb hg hat
                                                      obtain ⟨Ao42, co42, eo42⟩ := Kd.R_slice HO179.out
                                                      (first | subst eo42 | (injection eo42 with f1_ f2_ f3_; have f4_ := f1_.symm; have f5_ := f3_.symm; clear f1_ f2_ f3_; subst f4_; subst f5_))
                                                      refine hK.out _ _ ⟨(blk_cell BK170.out 0).trans rfl, (blk_cell BK170.out 1).trans rfl⟩ (fun hHeld => ?_)
                                                      clear hK K
                                                      refine norm_ (a' := ?_) ?_ ?_
                                                      rotate_left
                                                      · show Act.put _ (some 94) _ = _
                                                        simp only [Act.put, List.setIfInBounds_toArray, List.set_cons_zero, List.set_cons_succ, i64_w, i32_w]
                                                        rfl
                                                      refine pure_ (i := 12) (N := some 95) (v := ?_) (a' := ?_) #[true, true, true, true, true, true, true, true, true, true, true, true, true, false] rfl rfl (any_of HT_.out (by kernel_rfl)) (fun _ _ _ h => h) (Or.inl ⟨by rfl, ?_⟩) ?_ ?_
                                                      rotate_left
                                                      · intro w'
                                                        go_simp
                                                        with_reducible rfl
                                                      rotate_left
                                                      · simp only [Act.put, List.setIfInBounds_toArray, List.set_cons_zero, List.set_cons_succ, i64_w, i32_w]
                                                        rfl
                                                      refine last_ (i := 13) (N := none) #[true, true, true, true, true, true, true, true, true, true, true, true, true, true] rfl rfl (one_of HT_.out (by kernel_rfl)) (by decide) (fun K hK => ?_)
                                                      have hs43 : w41.cell? ⟨gb170, 1, none⟩ = some (u171001) := (blk_cell BK170.out 1).trans rfl
                                                      have hfs43 := blk_frozen BK170.out 1
                                                      refine skip_ (w1 := ?_) (by rfl) rfl ?_ ?_
                                                      rotate_left
                                                      · go_simp
                                                        rfl
                                                      refine hK.out _ _ ?_
                                                      clear hK K
                                                      refine done_ (done_of HT_.out (by kernel_rfl)) ?_
                                                      try go_wp2
                                                      go_roundg k4
                                                      case measure => have := HJ1.out; have := HK2.out; have := HJ11.out; have := HK4.out; omega
                                                      case rel => exact ⟨(x4_4.extract ((ji36) : Int).toNat x4_4.size), (IntKind.u64.wrap (x13_4 + 1)), (y177), (.slice Ao42 y177.length co42), (by first | rfl | (simp; done) | (simp only [← hji36] <;> (first | rfl | simp)) | (simp [*]; done)), (by first | rfl | (simp; done) | (simp [*]; done)), H', ⟨by have := HJ1.out; have := HK2.out; have := HJ11.out; have := HK4.out; omega⟩, ⟨by (with_reducible repeat (first | apply Kd.S_alloc | apply Kd.S_drewN | apply Kd.S_drew)); exact Kd.S_mono (Kd.S_far (p := ⟨gb170, 1, none⟩) (Kd.S_mono HO_7.out (fun k_ hk => (⟨hk, hk.1⟩ : _ ∧ k_ ≠ gb170))) (fun _ hk => hk.2) (.slice Ao42 y177.length co42)) (fun _ hk => ⟨hk.1.2, hk.1.1⟩)⟩, ⟨by (with_reducible repeat (first | apply Kd.R_alloc | apply Kd.R_drewN | apply Kd.R_drew)); exact Kd.R_mono (Kd.R_far (p := ⟨gb170, 1, none⟩) (Kd.R_types HO179.out BK170.out (by decide)) (fun _ hk => hk.2) (.slice Ao42 y177.length co42)) (fun _ hk => trivial)⟩, ⟨by (with_reducible repeat (first | refine blk_drewN ?_ _ | refine blk_drew ?_ | refine blk_alloc ?_ _)); refine blk_put (cs := #[.int .u64 t171, u171001]) ?_ 1 _ rfl; (with_reducible repeat (first | refine blk_drewN ?_ _ | refine blk_drew ?_ | refine blk_alloc ?_ _)); exact BK170.out⟩, ⟨by repeat (first | (with_reducible first | exact HB.out | apply below_alloc | apply pw_below_drewN | apply below_drew1 | refine below_set ?_ GE170.out) | exact HB.out)⟩⟩
                                                    · rw [if_neg c38] at H
                                                      exact absurd H (by simp)
                                                  · rw [if_neg c37] at H
                                                    exact absurd H (by simp)
                                                · rw [if_neg c35] at H
                                                  exact absurd H (by simp)
                                              · rw [if_neg c32] at H
                                                exact absurd H (by simp)
                                            · rw [if_neg c30] at H
                                              exact absurd H (by simp)
                                          · rw [if_neg c28] at H
                                            exact absurd H (by simp)
                                        · rw [if_neg c27] at H
                                          have c27b0 : decide (2 < (x4_4.size : Int)) = false := decide_eq_false c27
                                          have c27b1 : decide (2 < x4_4.size) = false := decide_eq_false (by omega)
                                          clear c27
                                          by_cases c44 : x7_2.length < 4398046511104
                                          · rw [if_pos c44] at H
                                            have LMc44 := Aside0.mk c44
                                            clear c44
                                            obtain ⟨y180, hy180⟩ : ∃ y_ : List (S57), y_ = (x7_2 ++ [(⟨t171, x171001_4⟩ : S57)]) := ⟨_, rfl⟩
                                            replace H : (homographref11_Get.l0 k4 a0 x4_4 t166 y180 (IntKind.u64.wrap (x8_2 + 1))) = some (r1, r2) := by first | (rw [hy180]; with_reducible exact H) | (have H2_ := (Option.bind_some _ _).symm.trans H; rw [hy180]; with_reducible exact H2_) | (have H2_ := (Option.bind_some _ _).symm.trans H; with_reducible exact H2_) | with_reducible exact H | (rw [hy180]; exact H) | exact H
                                            have Ny180 := Aside0.mk hy180
                                            clear hy180
                                            have H' := Aside0.mk H
                                            clear H
                                            have hcz45_0 : wr.cell? ⟨gb170, 0, none⟩ = some (.int .u64 t171) := (blk_cell BK170.out 0).trans rfl
                                            have hcz45_1 : wr.cell? ⟨gb170, 1, none⟩ = some (u171001) := (blk_cell BK170.out 1).trans rfl
                                            have hfz45_0 := blk_frozen BK170.out 0
                                            have hfz45_1 := blk_frozen BK170.out 1
                                            obtain ⟨Ao47, co47, eo47⟩ := Kd.R_slice HO_171001.out
                                            subst eo47
                                            go_wp2_with (first | ((with_reducible refine gate_builtin (b := .append) (xs := #[.tmp 100, .tmp 102]) rfl ?_); (try (refine gate_guard (by rfl) ?_; dsimp only)); at_builtin; refine Kd.S_append k57 (w0 := w) w.heap.size rfl (.tmp 100) (.tmp 102) 23 57 (.agg #[(.int .u64 0), (.slice none 0 0)]) 32 rfl Try.underlying23 info57 rfl (by decide) (by omega) u7 x7_2 (⟨t171, x171001_4⟩ : S57) [.int .u64 t171, .slice Ao47 x171001_4.length co47] (fun k_ => k_ ≠ gb170) (fun k_ => some k_ = (.slice Ao47 x171001_4.length co47 : Value).ownBlock) rfl rfl ?aP (fun k_ hk_ => ((Kd.R_mono (ok' := fun k_ => ((fun k_ => k_ ≠ gb170)) k_ ∧ some k_ ≠ (u7 : Value).ownBlock) (Kd.R_types (Kd.R_apart' (HO_171001.out) (Kd.S_typed HO_7.out) (by decide)) BK170.out (by decide)) (fun k_ hk => ⟨hk.2, hk.1.2⟩))).1 k_ hk_.symm) ?aF ?aO ?aB ?aS ?aL ?_; (case aP => exact k57_mkM _ _ _ (⟨t171, x171001_4⟩ : S57) (Kd.R_mono (Kd.R_tight rfl (Kd.R_mono (ok' := fun k_ => ((fun k_ => k_ ≠ gb170)) k_ ∧ some k_ ≠ (u7 : Value).ownBlock) (Kd.R_types (Kd.R_apart' (HO_171001.out) (Kd.S_typed HO_7.out) (by decide)) BK170.out (by decide)) (fun k_ hk => ⟨hk.2, hk.1.2⟩))) (fun _ h_ => h_))); (case aB => exact (by repeat (first | (with_reducible first | exact HB.out | apply below_alloc | apply pw_below_drewN | apply below_drew1 | refine below_set ?_ GE170.out) | exact HB.out))); (case aF => exact (fun k_ hk => Kd.freshB (g := gb170) (o := .cells #[.int .u64 t171, .slice Ao47 x171001_4.length co47] 57 (0, 0)) (by (with_reducible repeat (first | refine blk_drewN ?_ _ | refine blk_drew ?_ | refine blk_alloc ?_ _)); exact BK170.out) k_ hk)); (case aO => exact (by (with_reducible repeat (first | apply Kd.S_alloc | apply Kd.S_drewN | apply Kd.S_drew)); exact Kd.S_mono HO_7.out (fun k_ hk => ⟨hk.2, fun e_ => hk.1 e_⟩))); (case aS => exact (below_size (by repeat (first | (with_reducible first | exact HB.out | apply below_alloc | apply pw_below_drewN | apply below_drew1 | refine below_set ?_ GE170.out) | exact HB.out)))); (case aL => have := LMc44.out; omega); intro v181 w46 ho hb hg hat; rw [← Ny180.out] at ho; have n0_ := Aside0.mk (blk_grown (g := gb170) (o := .cells #[.int .u64 t171, .slice Ao47 x171001_4.length co47] 57 (0, 0)) (by (with_reducible repeat (first | refine blk_drewN ?_ _ | refine blk_drew ?_ | refine blk_alloc ?_ _)); exact BK170.out) hg (Kd.S_away HO_7.out (fun _ hk => hk.2))); have n1_ := Aside0.mk (hb); have n2_ := Aside0.mk (ho); clear BK170; clear HB; clear HO_7; clear HO_171001; have BK170 := n0_; have HB := n1_; have HO182 := n2_; clear n0_ n1_ n2_; clear ho hb hg hat))
                                            go_roundg k4
                                            case measure => have := HJ1.out; have := HK2.out; have := HJ11.out; have := HK4.out; omega
                                            case rel => exact ⟨(x4_4), (y180), (IntKind.u64.wrap (x8_2 + 1)), (by first | rfl | (simp; done) | (simp [*]; done)), (by first | rfl | (simp; done) | (simp [*]; done)), H', ⟨by have := HJ1.out; have := HK2.out; have := HJ11.out; have := HK4.out; omega⟩, ⟨by (with_reducible repeat (first | apply Kd.S_alloc | apply Kd.S_drewN | apply Kd.S_drew)); exact Kd.S_mono HO182.out (fun _ hk => trivial)⟩, ⟨by repeat (first | (with_reducible first | exact HB.out | apply below_alloc | apply pw_below_drewN | apply below_drew1 | refine below_set ?_ GE170.out) | exact HB.out)⟩⟩
                                          · rw [if_neg c44] at H
                                            exact absurd H (by simp)
                                      · rw [if_neg c26] at H
                                        have c26b0 : decide (x13_4 < 256) = false := decide_eq_false c26
                                        clear c26
                                        by_cases c48 : x7_2.length < 4398046511104
                                        · rw [if_pos c48] at H
                                          have LMc48 := Aside0.mk c48
                                          clear c48
                                          obtain ⟨y183, hy183⟩ : ∃ y_ : List (S57), y_ = (x7_2 ++ [(⟨t171, x171001_4⟩ : S57)]) := ⟨_, rfl⟩
                                          replace H : (homographref11_Get.l0 k4 a0 x4_4 t166 y183 (IntKind.u64.wrap (x8_2 + 1))) = some (r1, r2) := by first | (rw [hy183]; with_reducible exact H) | (have H2_ := (Option.bind_some _ _).symm.trans H; rw [hy183]; with_reducible exact H2_) | (have H2_ := (Option.bind_some _ _).symm.trans H; with_reducible exact H2_) | with_reducible exact H | (rw [hy183]; exact H) | exact H
                                          have Ny183 := Aside0.mk hy183
                                          clear hy183
                                          have H' := Aside0.mk H
                                          clear H
                                          have hcz49_0 : wr.cell? ⟨gb170, 0, none⟩ = some (.int .u64 t171) := (blk_cell BK170.out 0).trans rfl
                                          have hcz49_1 : wr.cell? ⟨gb170, 1, none⟩ = some (u171001) := (blk_cell BK170.out 1).trans rfl
                                          have hfz49_0 := blk_frozen BK170.out 0
                                          have hfz49_1 := blk_frozen BK170.out 1
                                          obtain ⟨Ao51, co51, eo51⟩ := Kd.R_slice HO_171001.out
                                          subst eo51
                                          go_wp2_with (first | ((with_reducible refine gate_builtin (b := .append) (xs := #[.tmp 100, .tmp 102]) rfl ?_); (try (refine gate_guard (by rfl) ?_; dsimp only)); at_builtin; refine Kd.S_append k57 (w0 := w) w.heap.size rfl (.tmp 100) (.tmp 102) 23 57 (.agg #[(.int .u64 0), (.slice none 0 0)]) 32 rfl Try.underlying23 info57 rfl (by decide) (by omega) u7 x7_2 (⟨t171, x171001_4⟩ : S57) [.int .u64 t171, .slice Ao51 x171001_4.length co51] (fun k_ => k_ ≠ gb170) (fun k_ => some k_ = (.slice Ao51 x171001_4.length co51 : Value).ownBlock) rfl rfl ?aP (fun k_ hk_ => ((Kd.R_mono (ok' := fun k_ => ((fun k_ => k_ ≠ gb170)) k_ ∧ some k_ ≠ (u7 : Value).ownBlock) (Kd.R_types (Kd.R_apart' (HO_171001.out) (Kd.S_typed HO_7.out) (by decide)) BK170.out (by decide)) (fun k_ hk => ⟨hk.2, hk.1.2⟩))).1 k_ hk_.symm) ?aF ?aO ?aB ?aS ?aL ?_; (case aP => exact k57_mkM _ _ _ (⟨t171, x171001_4⟩ : S57) (Kd.R_mono (Kd.R_tight rfl (Kd.R_mono (ok' := fun k_ => ((fun k_ => k_ ≠ gb170)) k_ ∧ some k_ ≠ (u7 : Value).ownBlock) (Kd.R_types (Kd.R_apart' (HO_171001.out) (Kd.S_typed HO_7.out) (by decide)) BK170.out (by decide)) (fun k_ hk => ⟨hk.2, hk.1.2⟩))) (fun _ h_ => h_))); (case aB => exact (by repeat (first | (with_reducible first | exact HB.out | apply below_alloc | apply pw_below_drewN | apply below_drew1 | refine below_set ?_ GE170.out) | exact HB.out))); (case aF => exact (fun k_ hk => Kd.freshB (g := gb170) (o := .cells #[.int .u64 t171, .slice Ao51 x171001_4.length co51] 57 (0, 0)) (by (with_reducible repeat (first | refine blk_drewN ?_ _ | refine blk_drew ?_ | refine blk_alloc ?_ _)); exact BK170.out) k_ hk)); (case aO => exact (by (with_reducible repeat (first | apply Kd.S_alloc | apply Kd.S_drewN | apply Kd.S_drew)); exact Kd.S_mono HO_7.out (fun k_ hk => ⟨hk.2, fun e_ => hk.1 e_⟩))); (case aS => exact (below_size (by repeat (first | (with_reducible first | exact HB.out | apply below_alloc | apply pw_below_drewN | apply below_drew1 | refine below_set ?_ GE170.out) | exact HB.out)))); (case aL => have := LMc48.out; omega); intro v184 w50 ho hb hg hat; rw [← Ny183.out] at ho; have n0_ := Aside0.mk (blk_grown (g := gb170) (o := .cells #[.int .u64 t171, .slice Ao51 x171001_4.length co51] 57 (0, 0)) (by (with_reducible repeat (first | refine blk_drewN ?_ _ | refine blk_drew ?_ | refine blk_alloc ?_ _)); exact BK170.out) hg (Kd.S_away HO_7.out (fun _ hk => hk.2))); have n1_ := Aside0.mk (hb); have n2_ := Aside0.mk (ho); clear BK170; clear HB; clear HO_7; clear HO_171001; have BK170 := n0_; have HB := n1_; have HO185 := n2_; clear n0_ n1_ n2_; clear ho hb hg hat))
                                          go_roundg k4
                                          case measure => have := HJ1.out; have := HK2.out; have := HJ11.out; have := HK4.out; omega
                                          case rel => exact ⟨(x4_4), (y183), (IntKind.u64.wrap (x8_2 + 1)), (by first | rfl | (simp; done) | (simp [*]; done)), (by first | rfl | (simp; done) | (simp [*]; done)), H', ⟨by have := HJ1.out; have := HK2.out; have := HJ11.out; have := HK4.out; omega⟩, ⟨by (with_reducible repeat (first | apply Kd.S_alloc | apply Kd.S_drewN | apply Kd.S_drew)); exact Kd.S_mono HO185.out (fun _ hk => trivial)⟩, ⟨by repeat (first | (with_reducible first | exact HB.out | apply below_alloc | apply pw_below_drewN | apply below_drew1 | refine below_set ?_ GE170.out) | exact HB.out)⟩⟩
                                        · rw [if_neg c48] at H
                                          exact absurd H (by simp)
                                    · rw [if_neg c25] at H
                                      have c25b0 : decide (x13_4 < t173) = false := decide_eq_false c25
                                      clear c25
                                      by_cases c52 : x7_2.length < 4398046511104
                                      · rw [if_pos c52] at H
                                        have LMc52 := Aside0.mk c52
                                        clear c52
                                        obtain ⟨y186, hy186⟩ : ∃ y_ : List (S57), y_ = (x7_2 ++ [(⟨t171, x171001_4⟩ : S57)]) := ⟨_, rfl⟩
                                        replace H : (homographref11_Get.l0 k4 a0 x4_4 t166 y186 (IntKind.u64.wrap (x8_2 + 1))) = some (r1, r2) := by first | (rw [hy186]; with_reducible exact H) | (have H2_ := (Option.bind_some _ _).symm.trans H; rw [hy186]; with_reducible exact H2_) | (have H2_ := (Option.bind_some _ _).symm.trans H; with_reducible exact H2_) | with_reducible exact H | (rw [hy186]; exact H) | exact H
                                        have Ny186 := Aside0.mk hy186
                                        clear hy186
                                        have H' := Aside0.mk H
                                        clear H
                                        have hcz53_0 : wr.cell? ⟨gb170, 0, none⟩ = some (.int .u64 t171) := (blk_cell BK170.out 0).trans rfl
                                        have hcz53_1 : wr.cell? ⟨gb170, 1, none⟩ = some (u171001) := (blk_cell BK170.out 1).trans rfl
                                        have hfz53_0 := blk_frozen BK170.out 0
                                        have hfz53_1 := blk_frozen BK170.out 1
                                        obtain ⟨Ao55, co55, eo55⟩ := Kd.R_slice HO_171001.out
                                        subst eo55
                                        go_wp2_with (first | ((with_reducible refine gate_builtin (b := .append) (xs := #[.tmp 100, .tmp 102]) rfl ?_); (try (refine gate_guard (by rfl) ?_; dsimp only)); at_builtin; refine Kd.S_append k57 (w0 := w) w.heap.size rfl (.tmp 100) (.tmp 102) 23 57 (.agg #[(.int .u64 0), (.slice none 0 0)]) 32 rfl Try.underlying23 info57 rfl (by decide) (by omega) u7 x7_2 (⟨t171, x171001_4⟩ : S57) [.int .u64 t171, .slice Ao55 x171001_4.length co55] (fun k_ => k_ ≠ gb170) (fun k_ => some k_ = (.slice Ao55 x171001_4.length co55 : Value).ownBlock) rfl rfl ?aP (fun k_ hk_ => ((Kd.R_mono (ok' := fun k_ => ((fun k_ => k_ ≠ gb170)) k_ ∧ some k_ ≠ (u7 : Value).ownBlock) (Kd.R_types (Kd.R_apart' (HO_171001.out) (Kd.S_typed HO_7.out) (by decide)) BK170.out (by decide)) (fun k_ hk => ⟨hk.2, hk.1.2⟩))).1 k_ hk_.symm) ?aF ?aO ?aB ?aS ?aL ?_; (case aP => exact k57_mkM _ _ _ (⟨t171, x171001_4⟩ : S57) (Kd.R_mono (Kd.R_tight rfl (Kd.R_mono (ok' := fun k_ => ((fun k_ => k_ ≠ gb170)) k_ ∧ some k_ ≠ (u7 : Value).ownBlock) (Kd.R_types (Kd.R_apart' (HO_171001.out) (Kd.S_typed HO_7.out) (by decide)) BK170.out (by decide)) (fun k_ hk => ⟨hk.2, hk.1.2⟩))) (fun _ h_ => h_))); (case aB => exact (by repeat (first | (with_reducible first | exact HB.out | apply below_alloc | apply pw_below_drewN | apply below_drew1 | refine below_set ?_ GE170.out) | exact HB.out))); (case aF => exact (fun k_ hk => Kd.freshB (g := gb170) (o := .cells #[.int .u64 t171, .slice Ao55 x171001_4.length co55] 57 (0, 0)) (by (with_reducible repeat (first | refine blk_drewN ?_ _ | refine blk_drew ?_ | refine blk_alloc ?_ _)); exact BK170.out) k_ hk)); (case aO => exact (by (with_reducible repeat (first | apply Kd.S_alloc | apply Kd.S_drewN | apply Kd.S_drew)); exact Kd.S_mono HO_7.out (fun k_ hk => ⟨hk.2, fun e_ => hk.1 e_⟩))); (case aS => exact (below_size (by repeat (first | (with_reducible first | exact HB.out | apply below_alloc | apply pw_below_drewN | apply below_drew1 | refine below_set ?_ GE170.out) | exact HB.out)))); (case aL => have := LMc52.out; omega); intro v187 w54 ho hb hg hat; rw [← Ny186.out] at ho; have n0_ := Aside0.mk (blk_grown (g := gb170) (o := .cells #[.int .u64 t171, .slice Ao55 x171001_4.length co55] 57 (0, 0)) (by (with_reducible repeat (first | refine blk_drewN ?_ _ | refine blk_drew ?_ | refine blk_alloc ?_ _)); exact BK170.out) hg (Kd.S_away HO_7.out (fun _ hk => hk.2))); have n1_ := Aside0.mk (hb); have n2_ := Aside0.mk (ho); clear BK170; clear HB; clear HO_7; clear HO_171001; have BK170 := n0_; have HB := n1_; have HO188 := n2_; clear n0_ n1_ n2_; clear ho hb hg hat))
                                        go_roundg k4
                                        case measure => have := HJ1.out; have := HK2.out; have := HJ11.out; have := HK4.out; omega
                                        case rel => exact ⟨(x4_4), (y186), (IntKind.u64.wrap (x8_2 + 1)), (by first | rfl | (simp; done) | (simp [*]; done)), (by first | rfl | (simp; done) | (simp [*]; done)), H', ⟨by have := HJ1.out; have := HK2.out; have := HJ11.out; have := HK4.out; omega⟩, ⟨by (with_reducible repeat (first | apply Kd.S_alloc | apply Kd.S_drewN | apply Kd.S_drew)); exact Kd.S_mono HO188.out (fun _ hk => trivial)⟩, ⟨by repeat (first | (with_reducible first | exact HB.out | apply below_alloc | apply pw_below_drewN | apply below_drew1 | refine below_set ?_ GE170.out) | exact HB.out)⟩⟩
                                      · rw [if_neg c52] at H
                                        exact absurd H (by simp)
                              · rw [if_neg c20] at H
                                exact absurd H (by simp)
                            · rw [if_neg c19] at H
                              exact absurd H (by simp)
                          · rw [if_neg c17] at H
                            exact absurd H (by simp)
                        · rw [if_neg c16] at H
                          exact absurd H (by simp)
                      · replace c14 := Bool.eq_false_iff.mpr c14
                        subst c14
                        have H1 : ((homographref11_Put.f x7_2).bind fun bt168 => (if bt168.2 = 0 then (if bt168.1.toList = a0.toList then (some (x7_2, 0)) else (some (([] : List (S57)), 110))) else (some (([] : List (S57)), 110)))) = some (r1, r2) := by rw [if_neg (show ¬ (false = true) by decide)] at H; exact H
                        clear H
                        have H := H1
                        clear H1
                        replace H := Option.bind_eq_some_iff.mp H
                        obtain ⟨⟨t168, t169⟩, A560, H⟩ := H
                        replace H : (if t169 = 0 then (if t168.toList = a0.toList then (some (x7_2, 0)) else (some (([] : List (S57)), 110))) else (some (([] : List (S57)), 110))) = some (r1, r2) := H
                        have A56 := Aside0.mk A560
                        clear A560
                        by_cases c57 : t169 = 0
                        · rw [if_pos c57] at H
                          have c57b0 : (t169 == 0) = true := beq_iff_eq.mpr c57
                          have c57b1 : (t169 != 0) = false := bne_eq_false_iff_eq.mpr c57
                          clear c57
                          by_cases c58 : t168.toList = a0.toList
                          · rw [if_pos c58] at H
                            have c58b0 : (t168.toList == a0.toList) = true := beq_iff_eq.mpr c58
                            have c58b1 : (t168.toList != a0.toList) = false := bne_eq_false_iff_eq.mpr c58
                            clear c58
                            simp only [Option.some.injEq, Prod.mk.injEq] at H
                            obtain ⟨rfl, rfl⟩ := H
                            obtain ⟨Ao59, co59, eo59⟩ := Kd.S_slice HO_7.out
                            subst eo59
                            go_wp2_with (first | ((with_reducible refine gate_callee (f := 10) rfl ?_); refine goesL_ (some 106) rfl rfl Try.func10 (by kernel_rfl) rfl #[.slice Ao59 x7_2.length co59] rfl (by (try simp only [List.map_toArray, List.map_cons, List.map_nil]); first | done | rfl | (simp only [List.length_drop, List.length_take]; rfl)) ?_; (with_reducible refine (homographref11_Put.calls _ _ x7_2 t168 t169 _ ?side1 ?side2 A56.out).mono ?_); (case side1 => repeat (first | exact (Kd.S_reads' HO_7.out).2.2 | (with_reducible refine Kd.C_alloc ?_ _) | (with_reducible refine Kd.C_drewN ?_ _) | (with_reducible refine Kd.C_drew ?_))); (case side2 => exact (Kd.S_reads' HO_7.out).2.1); rintro e w60 ⟨rfl, hb⟩; refine ⟨_, rfl, ?_⟩; have n0_ := Aside0.mk (Kd.S_below (by (with_reducible repeat (first | apply Kd.S_alloc | apply Kd.S_drewN | apply Kd.S_drew)); exact HO_7.out) hb); have n1_ := Aside0.mk (below_step (by repeat (first | (with_reducible first | exact HB.out | apply below_alloc | apply pw_below_drewN | apply below_drew1) | exact HB.out)) hb); clear HO_7; clear HB; have HO_7 := n0_; have HB := n1_; clear n0_ n1_; (try clear hb); (try clear hb2); (try clear hk); (try clear hi)))
                            go_ret2
                            exact ⟨_, by first | rfl | (simp [errW_none, errW_some] <;> rfl) | (simp [*, errW_none, errW_some] <;> rfl), by (with_reducible repeat (first | apply Kd.S_alloc | apply Kd.S_drewN | apply Kd.S_drew)); exact HO_7.out, by repeat (first | (with_reducible first | exact HB.out | apply below_alloc | apply pw_below_drewN | apply below_drew1) | exact HB.out)⟩
                          · rw [if_neg c58] at H
                            have c58b0 : (t168.toList == a0.toList) = false := beq_eq_false_iff_ne.mpr c58
                            have c58b1 : (t168.toList != a0.toList) = true := bne_iff_ne.mpr c58
                            simp only [Option.some.injEq, Prod.mk.injEq] at H
                            obtain ⟨rfl, rfl⟩ := H
                            obtain ⟨Ao61, co61, eo61⟩ := Kd.S_slice HO_7.out
                            subst eo61
                            go_wp2_with (first | ((with_reducible refine gate_callee (f := 10) rfl ?_); refine goesL_ (some 106) rfl rfl Try.func10 (by kernel_rfl) rfl #[.slice Ao61 x7_2.length co61] rfl (by (try simp only [List.map_toArray, List.map_cons, List.map_nil]); first | done | rfl | (simp only [List.length_drop, List.length_take]; rfl)) ?_; (with_reducible refine (homographref11_Put.calls _ _ x7_2 t168 t169 _ ?side1 ?side2 A56.out).mono ?_); (case side1 => repeat (first | exact (Kd.S_reads' HO_7.out).2.2 | (with_reducible refine Kd.C_alloc ?_ _) | (with_reducible refine Kd.C_drewN ?_ _) | (with_reducible refine Kd.C_drew ?_))); (case side2 => exact (Kd.S_reads' HO_7.out).2.1); rintro e w62 ⟨rfl, hb⟩; refine ⟨_, rfl, ?_⟩; have n0_ := Aside0.mk (Kd.S_below (by (with_reducible repeat (first | apply Kd.S_alloc | apply Kd.S_drewN | apply Kd.S_drew)); exact HO_7.out) hb); have n1_ := Aside0.mk (below_step (by repeat (first | (with_reducible first | exact HB.out | apply below_alloc | apply pw_below_drewN | apply below_drew1) | exact HB.out)) hb); clear HO_7; clear HB; have HO_7 := n0_; have HB := n1_; clear n0_ n1_; (try clear hb); (try clear hb2); (try clear hk); (try clear hi)))
                            go_ret2
                            exact ⟨_, by first | rfl | (simp [errW_none, errW_some] <;> rfl) | (simp [*, errW_none, errW_some] <;> rfl), by first | exact Kd.S_nil _ _ _ _ _ | exact Kd.N_nil _ _ _ _ _ | exact Kd.V_nil _ _ _ _ _ | exact Kd.Q_nil _ _ _ _ _ | exact Kd.R_nil _ _ _ _ _, by repeat (first | (with_reducible first | exact HB.out | apply below_alloc | apply pw_below_drewN | apply below_drew1) | exact HB.out)⟩
                        · rw [if_neg c57] at H
                          have c57b0 : (t169 == 0) = false := beq_eq_false_iff_ne.mpr c57
                          have c57b1 : (t169 != 0) = true := bne_iff_ne.mpr c57
                          simp only [Option.some.injEq, Prod.mk.injEq] at H
                          obtain ⟨rfl, rfl⟩ := H
                          obtain ⟨Ao63, co63, eo63⟩ := Kd.S_slice HO_7.out
                          subst eo63
                          go_wp2_with (first | ((with_reducible refine gate_callee (f := 10) rfl ?_); refine goesL_ (some 106) rfl rfl Try.func10 (by kernel_rfl) rfl #[.slice Ao63 x7_2.length co63] rfl (by (try simp only [List.map_toArray, List.map_cons, List.map_nil]); first | done | rfl | (simp only [List.length_drop, List.length_take]; rfl)) ?_; (with_reducible refine (homographref11_Put.calls _ _ x7_2 t168 t169 _ ?side1 ?side2 A56.out).mono ?_); (case side1 => repeat (first | exact (Kd.S_reads' HO_7.out).2.2 | (with_reducible refine Kd.C_alloc ?_ _) | (with_reducible refine Kd.C_drewN ?_ _) | (with_reducible refine Kd.C_drew ?_))); (case side2 => exact (Kd.S_reads' HO_7.out).2.1); rintro e w64 ⟨rfl, hb⟩; refine ⟨_, rfl, ?_⟩; have n0_ := Aside0.mk (Kd.S_below (by (with_reducible repeat (first | apply Kd.S_alloc | apply Kd.S_drewN | apply Kd.S_drew)); exact HO_7.out) hb); have n1_ := Aside0.mk (below_step (by repeat (first | (with_reducible first | exact HB.out | apply below_alloc | apply pw_below_drewN | apply below_drew1) | exact HB.out)) hb); clear HO_7; clear HB; have HO_7 := n0_; have HB := n1_; clear n0_ n1_; (try clear hb); (try clear hb2); (try clear hk); (try clear hi)))
                          go_ret2
                          exact ⟨_, by first | rfl | (simp [errW_none, errW_some] <;> rfl) | (simp [*, errW_none, errW_some] <;> rfl), by first | exact Kd.S_nil _ _ _ _ _ | exact Kd.N_nil _ _ _ _ _ | exact Kd.V_nil _ _ _ _ _ | exact Kd.Q_nil _ _ _ _ _ | exact Kd.R_nil _ _ _ _ _, by repeat (first | (with_reducible first | exact HB.out | apply below_alloc | apply pw_below_drewN | apply below_drew1) | exact HB.out)⟩
            · rw [if_neg c10] at H
              exact absurd H (by simp)
          · rw [if_neg c9] at H
            exact absurd H (by simp)
        · rw [if_neg c7] at H
          exact absurd H (by simp)

end Go.Proofs.Ytokdggmobhnnpaa.P
