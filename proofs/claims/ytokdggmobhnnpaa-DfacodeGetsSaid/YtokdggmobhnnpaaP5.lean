/- DERIVED, printed by a program of this session (wip/pprint.py over the kit's print), with some callees' contracts proved by hand. Lean checks it. -/
import Derived.Test.YtokdggmobhnnpaaP0
namespace Go.Proofs.Ytokdggmobhnnpaa.P
open Go.RowKit Go.Proofs.YtokdggmobhnnpaaW.PrintWords Go.Proofs.YtokdggmobhnnpaaW.PrintLast Go.Proofs.YtokdggmobhnnpaaW.PrintMore
attribute [local go_sem] max2_int min2_int max_two min_two max_three min_three max_four min_four   -- for this text's walks alone
set_option linter.unusedVariables false
set_option linter.unusedSimpArgs false

/-! ### homographref07_Check: function 21 -/
mutual
def homographref07_Check.l0 : Nat → List (S57) → Int → Option (Int)
  | 0, _, _ => none
  | k + 1, x0, x3 => if x3 < (x0.length : Int) then (if 0 ≤ x3 then (homographref07_Check.l1 k x0 x3 ((rd_T57 x0 x3).f1) 0) else (none)) else (some 0)
def homographref07_Check.l1 : Nat → List (S57) → Int → List (S59) → Int → Option (Int)
  | 0, _, _, _, _ => none
  | k + 1, x0, x3, x4, x5 => if x5 < (x4.length : Int) then (if 0 ≤ x5 then (if ((rd_T59 x4 x5).f0) > ((rd_T59 x4 x5).f1) then (homographref07_Check.j2 k x0 x3 x4 x5 true) else (if ((rd_T59 x4 x5).f2) < 0 then (homographref07_Check.j2 k x0 x3 x4 x5 true) else (homographref07_Check.j2 k x0 x3 x4 x5 (decide (((rd_T59 x4 x5).f2) ≥ (x0.length : Int)))))) else (none)) else (homographref07_Check.l0 k x0 (wrap64 (x3 + 1)))
def homographref07_Check.j2 : Nat → List (S57) → Int → List (S59) → Int → Bool → Option (Int)
  | 0, _, _, _, _, _ => none
  | k + 1, x0, x3, x4, x5, x54 => if x54 = true then (some 110) else (if x5 > 0 then (if 0 ≤ x5 then (if x5 < (x4.length : Int) then (if 0 ≤ (wrap64 (x5 - 1)) then (if (wrap64 (x5 - 1)) < (x4.length : Int) then (if ((rd_T59 x4 x5).f0) ≤ ((rd_T59 x4 (wrap64 (x5 - 1))).f1) then (some 110) else (if ((((rd_T59 x4 x5).f0) - ((rd_T59 x4 (wrap64 (x5 - 1))).f1)) % 256) = 1 then (if ((rd_T59 x4 x5).f2) = ((rd_T59 x4 (wrap64 (x5 - 1))).f2) then (some 110) else (homographref07_Check.l1 k x0 x3 x4 (wrap64 (x5 + 1)))) else (homographref07_Check.l1 k x0 x3 x4 (wrap64 (x5 + 1))))) else (none)) else (none)) else (none)) else (none)) else (homographref07_Check.l1 k x0 x3 x4 (wrap64 (x5 + 1))))
end
def homographref07_Check.f (k : Nat) (l0 : List (S57)) : Option (Int) := if (l0.length : Int) > 4096 then (some 110) else (homographref07_Check.l0 k l0 0)
theorem homographref07_Check.mono_l : ∀ k, (∀ y0 y1, LeO (homographref07_Check.l0 k y0 y1) (homographref07_Check.l0 (k + 1) y0 y1)) ∧ (∀ y0 y1 y2 y3, LeO (homographref07_Check.l1 k y0 y1 y2 y3) (homographref07_Check.l1 (k + 1) y0 y1 y2 y3)) ∧ (∀ y0 y1 y2 y3 y4, LeO (homographref07_Check.j2 k y0 y1 y2 y3 y4) (homographref07_Check.j2 (k + 1) y0 y1 y2 y3 y4))
  | 0 => ⟨fun _ _ r h => by simp [homographref07_Check.l0] at h, fun _ _ _ _ r h => by simp [homographref07_Check.l1] at h, fun _ _ _ _ _ r h => by simp [homographref07_Check.j2] at h⟩
  | k + 1 => by
    obtain ⟨ih0, ih1, ih2⟩ := homographref07_Check.mono_l k
    refine ⟨?_, ?_, ?_⟩
    · intro y0 y1
      unfold homographref07_Check.l0
      repeat' first
      | (with_reducible exact ih0 _ _)
      | (with_reducible exact ih1 _ _ _ _)
      | (with_reducible exact ih2 _ _ _ _ _)
      | (with_reducible exact LeO.refl _)
      | (with_reducible exact LeO.none _)
      | (with_reducible refine LeO.ite ?_ ?_)
      | (with_reducible refine LeO.bind ?_ (fun _ => ?_))
      | exact ih0 _ _
      | exact ih1 _ _ _ _
      | exact ih2 _ _ _ _ _
      | exact LeO.none _
      | refine LeO.ite ?_ ?_
      | refine LeO.bind ?_ (fun _ => ?_)
    · intro y0 y1 y2 y3
      unfold homographref07_Check.l1
      repeat' first
      | (with_reducible exact ih0 _ _)
      | (with_reducible exact ih1 _ _ _ _)
      | (with_reducible exact ih2 _ _ _ _ _)
      | (with_reducible exact LeO.refl _)
      | (with_reducible exact LeO.none _)
      | (with_reducible refine LeO.ite ?_ ?_)
      | (with_reducible refine LeO.bind ?_ (fun _ => ?_))
      | exact ih0 _ _
      | exact ih1 _ _ _ _
      | exact ih2 _ _ _ _ _
      | exact LeO.none _
      | refine LeO.ite ?_ ?_
      | refine LeO.bind ?_ (fun _ => ?_)
    · intro y0 y1 y2 y3 y4
      unfold homographref07_Check.j2
      repeat' first
      | (with_reducible exact ih0 _ _)
      | (with_reducible exact ih1 _ _ _ _)
      | (with_reducible exact ih2 _ _ _ _ _)
      | (with_reducible exact LeO.refl _)
      | (with_reducible exact LeO.none _)
      | (with_reducible refine LeO.ite ?_ ?_)
      | (with_reducible refine LeO.bind ?_ (fun _ => ?_))
      | exact ih0 _ _
      | exact ih1 _ _ _ _
      | exact ih2 _ _ _ _ _
      | exact LeO.none _
      | refine LeO.ite ?_ ?_
      | refine LeO.bind ?_ (fun _ => ?_)
theorem homographref07_Check.mono : ∀ a0 k, LeO (homographref07_Check.f k a0) (homographref07_Check.f (k + 1) a0) := by
  intro a0 k
  obtain ⟨ih0, ih1, ih2⟩ := homographref07_Check.mono_l k
  unfold homographref07_Check.f
  repeat' first
      | (with_reducible exact ih0 _ _)
      | (with_reducible exact ih1 _ _ _ _)
      | (with_reducible exact ih2 _ _ _ _ _)
      | (with_reducible exact LeO.refl _)
      | (with_reducible exact LeO.none _)
      | (with_reducible refine LeO.ite ?_ ?_)
      | (with_reducible refine LeO.bind ?_ (fun _ => ?_))
      | exact ih0 _ _
      | exact ih1 _ _ _ _
      | exact ih2 _ _ _ _ _
      | exact LeO.none _
      | refine LeO.ite ?_ ?_
      | refine LeO.bind ?_ (fun _ => ?_)
set_option maxHeartbeats 8000000 in
set_option maxRecDepth 100000 in
theorem homographref07_Check.calls (k : Nat) (A0 : Option Addr) (c0 : Nat) (l0 : List (S57)) (r : Int) (w : World) (hr0 : Kd.C k57 w A0 l0.length l0) (hc0 : l0.length ≤ c0) (h : homographref07_Check.f k l0 = some r) :
    Calls Try.prog 21 #[.slice A0 l0.length c0] w fun e w' => e = .returned (.int .i64 r) ∧ Drawn0 w w' := by
  have HR0 := Aside0.mk hr0
  have HC0 := Aside0.mk hc0
  clear hr0 hc0
  have H : (if (l0.length : Int) > 4096 then (some 110) else (homographref07_Check.l0 k l0 0)) = some r := h
  clear h
  by_cases c2 : (l0.length : Int) > 4096
  · rw [if_pos c2] at H
    have c2b0 : decide (4096 < (l0.length : Int)) = true := decide_eq_true c2
    have c2b1 : decide (4096 < l0.length) = true := decide_eq_true (by omega)
    clear c2
    obtain rfl := Option.some.inj H
    go_enter Try.func21, Try.ntmps21
    go_wp2
    repeat (go_quiet (fail); try go_wp2)
    go_ret
    exact ⟨by first | rfl | (simp; done) | (simp [*]; done), by repeat (first | exact Drawn0.refl _ | apply Drawn0.step)⟩
  · rw [if_neg c2] at H
    have c2b0 : decide (4096 < (l0.length : Int)) = false := decide_eq_false c2
    have c2b1 : decide (4096 < l0.length) = false := decide_eq_false (by omega)
    clear c2
    have H' := Aside0.mk H
    clear H
    go_enter Try.func21, Try.ntmps21
    go_wp2
    repeat (go_quiet (fail); try go_wp2)
    go_loopg [3] k (fun kq v3 w' => ∃ (x3_1 : Int), v3 = .int .i64 x3_1 ∧ Aside0 (homographref07_Check.l0 kq l0 x3_1 = some r) ∧ Aside0 (kq ≤ k) ∧ Drawn0 w w')
    case atStart => exact ⟨(0), (by first | rfl | (simp; done) | (simp [*]; done)), H', ⟨Nat.le_refl _⟩, by repeat (first | exact Drawn0.refl _ | apply Drawn0.step)⟩
    case round =>
      clear H'
      try clear c2
      try clear c2b0
      try clear c2b1
      try clear p2
      obtain ⟨x3_1, rfl, HA, HK1, ⟨m1, rfl⟩⟩ := hrel
      cases gk with
      | zero => exact absurd HA.out (by simp [homographref07_Check.l0])
      | succ k1 =>
        have H := HA.out
        clear HA
        simp only [homographref07_Check.l0] at H
        by_cases c3 : x3_1 < (l0.length : Int)
        · rw [if_pos c3] at H
          have c3b0 : decide (x3_1 < (l0.length : Int)) = true := decide_eq_true c3
          clear c3
          by_cases c4 : 0 ≤ x3_1
          · rw [if_pos c4] at H
            have c4b0 : decide (0 ≤ x3_1) = true := decide_eq_true c4
            clear c4
            have H' := Aside0.mk H
            clear H
            have p130 : 0 ≤ (x3_1 : Int) := of_decide_eq_true (by first | (with_reducible assumption) | assumption)
            have q130 : x3_1 < (l0.length : Int) := of_decide_eq_true (by first | (with_reducible assumption) | assumption)
            obtain ⟨ad130, A130_1, c130_1, e130, hx130_0, hx130_1, hl130_1, hi130_1⟩ := at_T57 HR0.out x3_1 p130 q130
            cases e130
            have HR130_1 := Aside0.mk hi130_1
            have HC130_1 := Aside0.mk hl130_1
            clear hi130_1 hl130_1
            replace p130 := eq_true p130
            replace q130 := eq_true q130
            go_wp2
            repeat (go_quiet (fail); try go_wp2)
            go_loopg [5] k1 (fun kq v5 w' => ∃ (x5_2 : Int), v5 = .int .i64 x5_2 ∧ Aside0 (homographref07_Check.l1 kq l0 x3_1 ((rd_T57 l0 x3_1).f1) x5_2 = some r) ∧ Aside0 (kq ≤ k1) ∧ Drawn0 w w')
            case atStart => exact ⟨(0), (by first | rfl | (simp; done) | (simp [*]; done)), H', ⟨Nat.le_refl _⟩, by repeat (first | exact Drawn0.refl _ | apply Drawn0.step)⟩
            case round =>
              clear H'
              try clear c1
              try clear p1
              try clear q1
              try clear hx1
              try clear c2
              try clear c2b0
              try clear c2b1
              try clear p2
              try clear c3
              try clear c3b0
              try clear c4
              try clear c4b0
              try clear hx130_0
              try clear hx130_1
              try clear p130
              try clear p2
              try clear q130
              obtain ⟨x5_2, rfl, HA, HK2, ⟨m2, rfl⟩⟩ := hrel
              cases gk with
              | zero => exact absurd HA.out (by simp [homographref07_Check.l1])
              | succ k2 =>
                have H := HA.out
                clear HA
                simp only [homographref07_Check.l1] at H
                by_cases c5 : x5_2 < (((rd_T57 l0 x3_1).f1).length : Int)
                · rw [if_pos c5] at H
                  have c5b0 : decide (x5_2 < (((rd_T57 l0 x3_1).f1).length : Int)) = true := decide_eq_true c5
                  clear c5
                  have HC6 := Aside0.mk H
                  clear H
                  go_upto_region 10 with (fail)
                  repeat (go_quiet (fail); go_upto_region 10 with (fail))
                  go_cut [54] (fun v54 wc => ∃ (kq : Nat) (x54_5 : Bool), v54 = .bool x54_5 ∧ Aside0 (homographref07_Check.j2 kq l0 x3_1 ((rd_T57 l0 x3_1).f1) x5_2 x54_5 = some r) ∧ Aside0 (kq ≤ k2) ∧ Drawn0 w wc)
                  case first =>
                    have H := HC6.out
                    clear HC6
                    by_cases c7 : 0 ≤ x5_2
                    · rw [if_pos c7] at H
                      have c7b0 : decide (0 ≤ x5_2) = true := decide_eq_true c7
                      clear c7
                      (first | rw [c7b0] | (simp only [i64_w, i32_w]; rw [c7b0]) | skip)
                      by_cases c8 : ((rd_T59 ((rd_T57 l0 x3_1).f1) x5_2).f0) > ((rd_T59 ((rd_T57 l0 x3_1).f1) x5_2).f1)
                      · rw [if_pos c8] at H
                        have c8b0 : decide (((rd_T59 ((rd_T57 l0 x3_1).f1) x5_2).f1) < ((rd_T59 ((rd_T57 l0 x3_1).f1) x5_2).f0)) = true := decide_eq_true c8
                        clear c8
                        have H' := Aside0.mk H
                        clear H
                        have p131 : 0 ≤ (x5_2 : Int) := of_decide_eq_true (by first | (with_reducible assumption) | assumption)
                        have q131 : x5_2 < (((rd_T57 l0 x3_1).f1).length : Int) := of_decide_eq_true (by first | (with_reducible assumption) | assumption)
                        obtain ⟨ad131, e131, hx131_0, hx131_1, hx131_2⟩ := at_T59 HR130_1.out x5_2 p131 q131
                        cases e131
                        replace p131 := eq_true p131
                        replace q131 := eq_true q131
                        have p132 : 0 ≤ (x5_2 : Int) := of_decide_eq_true (by first | (with_reducible assumption) | assumption)
                        have q132 : x5_2 < (((rd_T57 l0 x3_1).f1).length : Int) := of_decide_eq_true (by first | (with_reducible assumption) | assumption)
                        obtain ⟨ad132, e132, hx132_0, hx132_1, hx132_2⟩ := at_T59 HR130_1.out x5_2 p132 q132
                        obtain rfl : ad131 = ad132 := (by injection e132)
                        replace p132 := eq_true p132
                        replace q132 := eq_true q132
                        go_wp2
                        repeat (go_quiet (fail); try go_wp2)
                        go_meet
                        case rel => exact ⟨_, (true), (by first | rfl | (simp; done) | (simp [*]; done)), H', ⟨by have := HK1.out; have := HK2.out; first | omega | exact Nat.le_refl _⟩, by repeat (first | exact Drawn0.refl _ | apply Drawn0.step)⟩
                      · rw [if_neg c8] at H
                        have c8b0 : decide (((rd_T59 ((rd_T57 l0 x3_1).f1) x5_2).f1) < ((rd_T59 ((rd_T57 l0 x3_1).f1) x5_2).f0)) = false := decide_eq_false c8
                        clear c8
                        by_cases c9 : ((rd_T59 ((rd_T57 l0 x3_1).f1) x5_2).f2) < 0
                        · rw [if_pos c9] at H
                          have c9b0 : decide (((rd_T59 ((rd_T57 l0 x3_1).f1) x5_2).f2) < 0) = true := decide_eq_true c9
                          clear c9
                          have H' := Aside0.mk H
                          clear H
                          have p131 : 0 ≤ (x5_2 : Int) := of_decide_eq_true (by first | (with_reducible assumption) | assumption)
                          have q131 : x5_2 < (((rd_T57 l0 x3_1).f1).length : Int) := of_decide_eq_true (by first | (with_reducible assumption) | assumption)
                          obtain ⟨ad131, e131, hx131_0, hx131_1, hx131_2⟩ := at_T59 HR130_1.out x5_2 p131 q131
                          cases e131
                          replace p131 := eq_true p131
                          replace q131 := eq_true q131
                          have p132 : 0 ≤ (x5_2 : Int) := of_decide_eq_true (by first | (with_reducible assumption) | assumption)
                          have q132 : x5_2 < (((rd_T57 l0 x3_1).f1).length : Int) := of_decide_eq_true (by first | (with_reducible assumption) | assumption)
                          obtain ⟨ad132, e132, hx132_0, hx132_1, hx132_2⟩ := at_T59 HR130_1.out x5_2 p132 q132
                          obtain rfl : ad131 = ad132 := (by injection e132)
                          replace p132 := eq_true p132
                          replace q132 := eq_true q132
                          have p133 : 0 ≤ (x5_2 : Int) := of_decide_eq_true (by first | (with_reducible assumption) | assumption)
                          have q133 : x5_2 < (((rd_T57 l0 x3_1).f1).length : Int) := of_decide_eq_true (by first | (with_reducible assumption) | assumption)
                          obtain ⟨ad133, e133, hx133_0, hx133_1, hx133_2⟩ := at_T59 HR130_1.out x5_2 p133 q133
                          obtain rfl : ad131 = ad133 := (by injection e133)
                          replace p133 := eq_true p133
                          replace q133 := eq_true q133
                          go_wp2
                          repeat (go_quiet (fail); try go_wp2)
                          go_meet
                          case rel => exact ⟨_, (true), (by first | rfl | (simp; done) | (simp [*]; done)), H', ⟨by have := HK1.out; have := HK2.out; first | omega | exact Nat.le_refl _⟩, by repeat (first | exact Drawn0.refl _ | apply Drawn0.step)⟩
                        · rw [if_neg c9] at H
                          have c9b0 : decide (((rd_T59 ((rd_T57 l0 x3_1).f1) x5_2).f2) < 0) = false := decide_eq_false c9
                          clear c9
                          have H' := Aside0.mk H
                          clear H
                          have p131 : 0 ≤ (x5_2 : Int) := of_decide_eq_true (by first | (with_reducible assumption) | assumption)
                          have q131 : x5_2 < (((rd_T57 l0 x3_1).f1).length : Int) := of_decide_eq_true (by first | (with_reducible assumption) | assumption)
                          obtain ⟨ad131, e131, hx131_0, hx131_1, hx131_2⟩ := at_T59 HR130_1.out x5_2 p131 q131
                          cases e131
                          replace p131 := eq_true p131
                          replace q131 := eq_true q131
                          have p132 : 0 ≤ (x5_2 : Int) := of_decide_eq_true (by first | (with_reducible assumption) | assumption)
                          have q132 : x5_2 < (((rd_T57 l0 x3_1).f1).length : Int) := of_decide_eq_true (by first | (with_reducible assumption) | assumption)
                          obtain ⟨ad132, e132, hx132_0, hx132_1, hx132_2⟩ := at_T59 HR130_1.out x5_2 p132 q132
                          obtain rfl : ad131 = ad132 := (by injection e132)
                          replace p132 := eq_true p132
                          replace q132 := eq_true q132
                          have p133 : 0 ≤ (x5_2 : Int) := of_decide_eq_true (by first | (with_reducible assumption) | assumption)
                          have q133 : x5_2 < (((rd_T57 l0 x3_1).f1).length : Int) := of_decide_eq_true (by first | (with_reducible assumption) | assumption)
                          obtain ⟨ad133, e133, hx133_0, hx133_1, hx133_2⟩ := at_T59 HR130_1.out x5_2 p133 q133
                          obtain rfl : ad131 = ad133 := (by injection e133)
                          replace p133 := eq_true p133
                          replace q133 := eq_true q133
                          have p134 : 0 ≤ (x5_2 : Int) := of_decide_eq_true (by first | (with_reducible assumption) | assumption)
                          have q134 : x5_2 < (((rd_T57 l0 x3_1).f1).length : Int) := of_decide_eq_true (by first | (with_reducible assumption) | assumption)
                          obtain ⟨ad134, e134, hx134_0, hx134_1, hx134_2⟩ := at_T59 HR130_1.out x5_2 p134 q134
                          obtain rfl : ad131 = ad134 := (by injection e134)
                          replace p134 := eq_true p134
                          replace q134 := eq_true q134
                          go_wp2
                          repeat (go_quiet (fail); try go_wp2)
                          go_meet
                          case rel => exact ⟨_, (decide (((rd_T59 ((rd_T57 l0 x3_1).f1) x5_2).f2) ≥ (l0.length : Int))), (by first | rfl | (simp; done) | (simp [*]; done)), H', ⟨by have := HK1.out; have := HK2.out; first | omega | exact Nat.le_refl _⟩, by repeat (first | exact Drawn0.refl _ | apply Drawn0.step)⟩
                    · rw [if_neg c7] at H
                      exact absurd H (by simp)
                  case rest =>
                    clear HC6
                    try clear c1
                    try clear p1
                    try clear q1
                    try clear hx1
                    try clear c2
                    try clear c2b0
                    try clear c2b1
                    try clear p2
                    try clear c3
                    try clear c3b0
                    try clear c4
                    try clear c4b0
                    try clear c5
                    try clear c5b0
                    try clear c7
                    try clear c7b0
                    try clear c8
                    try clear c8b0
                    try clear c9
                    try clear c9b0
                    try clear hx130_0
                    try clear hx130_1
                    try clear hx131_0
                    try clear hx131_1
                    try clear hx131_2
                    try clear hx132_0
                    try clear hx132_1
                    try clear hx132_2
                    try clear hx133_0
                    try clear hx133_1
                    try clear hx133_2
                    try clear hx134_0
                    try clear hx134_1
                    try clear hx134_2
                    try clear p1
                    try clear p130
                    try clear p131
                    try clear p132
                    try clear p133
                    try clear p134
                    try clear p2
                    try clear q1
                    try clear q130
                    try clear q131
                    try clear q132
                    try clear q133
                    try clear q134
                    obtain ⟨kq, x54_5, rfl, HA, HJ5, ⟨mc5, rfl⟩⟩ := hcut
                    cases kq with
                    | zero => exact absurd HA.out (by simp [homographref07_Check.j2])
                    | succ kj5 =>
                      have H := HA.out
                      clear HA
                      simp only [homographref07_Check.j2] at H
                      by_cases c10 : x54_5 = true
                      · subst c10
                        have H1 : (some 110) = some r := by rw [if_pos rfl] at H; exact H
                        clear H
                        have H := H1
                        clear H1
                        obtain rfl := Option.some.inj H
                        go_wp2
                        repeat (go_quiet (fail); try go_wp2)
                        go_ret
                        exact ⟨by first | rfl | (simp; done) | (simp [*]; done), by repeat (first | exact Drawn0.refl _ | apply Drawn0.step)⟩
                      · replace c10 := Bool.eq_false_iff.mpr c10
                        subst c10
                        have H1 : (if x5_2 > 0 then (if 0 ≤ x5_2 then (if x5_2 < (((rd_T57 l0 x3_1).f1).length : Int) then (if 0 ≤ (wrap64 (x5_2 - 1)) then (if (wrap64 (x5_2 - 1)) < (((rd_T57 l0 x3_1).f1).length : Int) then (if ((rd_T59 ((rd_T57 l0 x3_1).f1) x5_2).f0) ≤ ((rd_T59 ((rd_T57 l0 x3_1).f1) (wrap64 (x5_2 - 1))).f1) then (some 110) else (if ((((rd_T59 ((rd_T57 l0 x3_1).f1) x5_2).f0) - ((rd_T59 ((rd_T57 l0 x3_1).f1) (wrap64 (x5_2 - 1))).f1)) % 256) = 1 then (if ((rd_T59 ((rd_T57 l0 x3_1).f1) x5_2).f2) = ((rd_T59 ((rd_T57 l0 x3_1).f1) (wrap64 (x5_2 - 1))).f2) then (some 110) else (homographref07_Check.l1 kj5 l0 x3_1 ((rd_T57 l0 x3_1).f1) (wrap64 (x5_2 + 1)))) else (homographref07_Check.l1 kj5 l0 x3_1 ((rd_T57 l0 x3_1).f1) (wrap64 (x5_2 + 1))))) else (none)) else (none)) else (none)) else (none)) else (homographref07_Check.l1 kj5 l0 x3_1 ((rd_T57 l0 x3_1).f1) (wrap64 (x5_2 + 1)))) = some r := by rw [if_neg (show ¬ (false = true) by decide)] at H; exact H
                        clear H
                        have H := H1
                        clear H1
                        by_cases c11 : x5_2 > 0
                        · rw [if_pos c11] at H
                          have c11b0 : decide (0 < x5_2) = true := decide_eq_true c11
                          clear c11
                          by_cases c12 : 0 ≤ x5_2
                          · rw [if_pos c12] at H
                            have c12b0 : decide (0 ≤ x5_2) = true := decide_eq_true c12
                            clear c12
                            by_cases c13 : x5_2 < (((rd_T57 l0 x3_1).f1).length : Int)
                            · rw [if_pos c13] at H
                              have c13b0 : decide (x5_2 < (((rd_T57 l0 x3_1).f1).length : Int)) = true := decide_eq_true c13
                              clear c13
                              obtain ⟨ji14, hji14⟩ : ∃ j_ : Int, (wrap64 (x5_2 - 1)) = j_ := ⟨_, rfl⟩
                              replace H : (if 0 ≤ (ji14) then (if (ji14) < (((rd_T57 l0 x3_1).f1).length : Int) then (if ((rd_T59 ((rd_T57 l0 x3_1).f1) x5_2).f0) ≤ ((rd_T59 ((rd_T57 l0 x3_1).f1) (ji14)).f1) then (some 110) else (if ((((rd_T59 ((rd_T57 l0 x3_1).f1) x5_2).f0) - ((rd_T59 ((rd_T57 l0 x3_1).f1) (ji14)).f1)) % 256) = 1 then (if ((rd_T59 ((rd_T57 l0 x3_1).f1) x5_2).f2) = ((rd_T59 ((rd_T57 l0 x3_1).f1) (ji14)).f2) then (some 110) else (homographref07_Check.l1 kj5 l0 x3_1 ((rd_T57 l0 x3_1).f1) (wrap64 (x5_2 + 1)))) else (homographref07_Check.l1 kj5 l0 x3_1 ((rd_T57 l0 x3_1).f1) (wrap64 (x5_2 + 1))))) else (none)) else (none)) = some r := by first | (rw [hji14] at H; exact H) | (simp only [hji14] at H ⊢; exact H)
                              have hji14w : (IntKind.i64.wrap (x5_2 - 1)) = ji14 := (i64_w _).trans hji14
                              by_cases c15 : 0 ≤ (ji14)
                              · rw [if_pos c15] at H
                                have c15b0 : decide (0 ≤ (ji14)) = true := decide_eq_true c15
                                clear c15
                                by_cases c16 : (ji14) < (((rd_T57 l0 x3_1).f1).length : Int)
                                · rw [if_pos c16] at H
                                  have c16b0 : decide ((ji14) < (((rd_T57 l0 x3_1).f1).length : Int)) = true := decide_eq_true c16
                                  clear c16
                                  by_cases c17 : ((rd_T59 ((rd_T57 l0 x3_1).f1) x5_2).f0) ≤ ((rd_T59 ((rd_T57 l0 x3_1).f1) (ji14)).f1)
                                  · rw [if_pos c17] at H
                                    have c17b0 : decide (((rd_T59 ((rd_T57 l0 x3_1).f1) x5_2).f0) ≤ ((rd_T59 ((rd_T57 l0 x3_1).f1) (ji14)).f1)) = true := decide_eq_true c17
                                    clear c17
                                    obtain rfl := Option.some.inj H
                                    have p135 : 0 ≤ (x5_2 : Int) := of_decide_eq_true (by first | (with_reducible assumption) | assumption)
                                    have q135 : x5_2 < (((rd_T57 l0 x3_1).f1).length : Int) := of_decide_eq_true (by first | (with_reducible assumption) | assumption)
                                    obtain ⟨ad135, e135, hx135_0, hx135_1, hx135_2⟩ := at_T59 HR130_1.out x5_2 p135 q135
                                    cases e135
                                    replace p135 := eq_true p135
                                    replace q135 := eq_true q135
                                    have p136 : 0 ≤ ((ji14) : Int) := of_decide_eq_true (by first | (with_reducible assumption) | assumption)
                                    have q136 : (ji14) < (((rd_T57 l0 x3_1).f1).length : Int) := of_decide_eq_true (by first | (with_reducible assumption) | assumption)
                                    obtain ⟨ad136, e136, hx136_0, hx136_1, hx136_2⟩ := at_T59 HR130_1.out (ji14) p136 q136
                                    obtain rfl : ad135 = ad136 := (by injection e136)
                                    replace p136 := eq_true p136
                                    replace q136 := eq_true q136
                                    go_wp2
                                    repeat (go_quiet (fail); try go_wp2)
                                    go_ret
                                    exact ⟨by first | rfl | (simp; done) | (simp only [← hji14] <;> (first | rfl | simp)) | (simp [*]; done), by repeat (first | exact Drawn0.refl _ | apply Drawn0.step)⟩
                                  · rw [if_neg c17] at H
                                    have c17b0 : decide (((rd_T59 ((rd_T57 l0 x3_1).f1) x5_2).f0) ≤ ((rd_T59 ((rd_T57 l0 x3_1).f1) (ji14)).f1)) = false := decide_eq_false c17
                                    clear c17
                                    by_cases c18 : ((((rd_T59 ((rd_T57 l0 x3_1).f1) x5_2).f0) - ((rd_T59 ((rd_T57 l0 x3_1).f1) (ji14)).f1)) % 256) = 1
                                    · rw [if_pos c18] at H
                                      have c18b0 : (((((rd_T59 ((rd_T57 l0 x3_1).f1) x5_2).f0) - ((rd_T59 ((rd_T57 l0 x3_1).f1) (ji14)).f1)) % 256) == 1) = true := beq_iff_eq.mpr c18
                                      have c18b1 : (((((rd_T59 ((rd_T57 l0 x3_1).f1) x5_2).f0) - ((rd_T59 ((rd_T57 l0 x3_1).f1) (ji14)).f1)) % 256) != 1) = false := bne_eq_false_iff_eq.mpr c18
                                      clear c18
                                      by_cases c19 : ((rd_T59 ((rd_T57 l0 x3_1).f1) x5_2).f2) = ((rd_T59 ((rd_T57 l0 x3_1).f1) (ji14)).f2)
                                      · rw [if_pos c19] at H
                                        have c19b0 : (((rd_T59 ((rd_T57 l0 x3_1).f1) x5_2).f2) == ((rd_T59 ((rd_T57 l0 x3_1).f1) (ji14)).f2)) = true := beq_iff_eq.mpr c19
                                        have c19b1 : (((rd_T59 ((rd_T57 l0 x3_1).f1) x5_2).f2) != ((rd_T59 ((rd_T57 l0 x3_1).f1) (ji14)).f2)) = false := bne_eq_false_iff_eq.mpr c19
                                        clear c19
                                        obtain rfl := Option.some.inj H
                                        have p135 : 0 ≤ (x5_2 : Int) := of_decide_eq_true (by first | (with_reducible assumption) | assumption)
                                        have q135 : x5_2 < (((rd_T57 l0 x3_1).f1).length : Int) := of_decide_eq_true (by first | (with_reducible assumption) | assumption)
                                        obtain ⟨ad135, e135, hx135_0, hx135_1, hx135_2⟩ := at_T59 HR130_1.out x5_2 p135 q135
                                        cases e135
                                        replace p135 := eq_true p135
                                        replace q135 := eq_true q135
                                        have p136 : 0 ≤ ((ji14) : Int) := of_decide_eq_true (by first | (with_reducible assumption) | assumption)
                                        have q136 : (ji14) < (((rd_T57 l0 x3_1).f1).length : Int) := of_decide_eq_true (by first | (with_reducible assumption) | assumption)
                                        obtain ⟨ad136, e136, hx136_0, hx136_1, hx136_2⟩ := at_T59 HR130_1.out (ji14) p136 q136
                                        obtain rfl : ad135 = ad136 := (by injection e136)
                                        replace p136 := eq_true p136
                                        replace q136 := eq_true q136
                                        have p137 : 0 ≤ (x5_2 : Int) := of_decide_eq_true (by first | (with_reducible assumption) | assumption)
                                        have q137 : x5_2 < (((rd_T57 l0 x3_1).f1).length : Int) := of_decide_eq_true (by first | (with_reducible assumption) | assumption)
                                        obtain ⟨ad137, e137, hx137_0, hx137_1, hx137_2⟩ := at_T59 HR130_1.out x5_2 p137 q137
                                        obtain rfl : ad135 = ad137 := (by injection e137)
                                        replace p137 := eq_true p137
                                        replace q137 := eq_true q137
                                        have p138 : 0 ≤ ((ji14) : Int) := of_decide_eq_true (by first | (with_reducible assumption) | assumption)
                                        have q138 : (ji14) < (((rd_T57 l0 x3_1).f1).length : Int) := of_decide_eq_true (by first | (with_reducible assumption) | assumption)
                                        obtain ⟨ad138, e138, hx138_0, hx138_1, hx138_2⟩ := at_T59 HR130_1.out (ji14) p138 q138
                                        obtain rfl : ad135 = ad138 := (by injection e138)
                                        replace p138 := eq_true p138
                                        replace q138 := eq_true q138
                                        have p139 : 0 ≤ (x5_2 : Int) := of_decide_eq_true (by first | (with_reducible assumption) | assumption)
                                        have q139 : x5_2 < (((rd_T57 l0 x3_1).f1).length : Int) := of_decide_eq_true (by first | (with_reducible assumption) | assumption)
                                        obtain ⟨ad139, e139, hx139_0, hx139_1, hx139_2⟩ := at_T59 HR130_1.out x5_2 p139 q139
                                        obtain rfl : ad135 = ad139 := (by injection e139)
                                        replace p139 := eq_true p139
                                        replace q139 := eq_true q139
                                        have p140 : 0 ≤ ((ji14) : Int) := of_decide_eq_true (by first | (with_reducible assumption) | assumption)
                                        have q140 : (ji14) < (((rd_T57 l0 x3_1).f1).length : Int) := of_decide_eq_true (by first | (with_reducible assumption) | assumption)
                                        obtain ⟨ad140, e140, hx140_0, hx140_1, hx140_2⟩ := at_T59 HR130_1.out (ji14) p140 q140
                                        obtain rfl : ad135 = ad140 := (by injection e140)
                                        replace p140 := eq_true p140
                                        replace q140 := eq_true q140
                                        go_wp2
                                        repeat (go_quiet (fail); try go_wp2)
                                        go_ret
                                        exact ⟨by first | rfl | (simp; done) | (simp only [← hji14] <;> (first | rfl | simp)) | (simp [*]; done), by repeat (first | exact Drawn0.refl _ | apply Drawn0.step)⟩
                                      · rw [if_neg c19] at H
                                        have c19b0 : (((rd_T59 ((rd_T57 l0 x3_1).f1) x5_2).f2) == ((rd_T59 ((rd_T57 l0 x3_1).f1) (ji14)).f2)) = false := beq_eq_false_iff_ne.mpr c19
                                        have c19b1 : (((rd_T59 ((rd_T57 l0 x3_1).f1) x5_2).f2) != ((rd_T59 ((rd_T57 l0 x3_1).f1) (ji14)).f2)) = true := bne_iff_ne.mpr c19
                                        have H' := Aside0.mk H
                                        clear H
                                        have p135 : 0 ≤ (x5_2 : Int) := of_decide_eq_true (by first | (with_reducible assumption) | assumption)
                                        have q135 : x5_2 < (((rd_T57 l0 x3_1).f1).length : Int) := of_decide_eq_true (by first | (with_reducible assumption) | assumption)
                                        obtain ⟨ad135, e135, hx135_0, hx135_1, hx135_2⟩ := at_T59 HR130_1.out x5_2 p135 q135
                                        cases e135
                                        replace p135 := eq_true p135
                                        replace q135 := eq_true q135
                                        have p136 : 0 ≤ ((ji14) : Int) := of_decide_eq_true (by first | (with_reducible assumption) | assumption)
                                        have q136 : (ji14) < (((rd_T57 l0 x3_1).f1).length : Int) := of_decide_eq_true (by first | (with_reducible assumption) | assumption)
                                        obtain ⟨ad136, e136, hx136_0, hx136_1, hx136_2⟩ := at_T59 HR130_1.out (ji14) p136 q136
                                        obtain rfl : ad135 = ad136 := (by injection e136)
                                        replace p136 := eq_true p136
                                        replace q136 := eq_true q136
                                        have p137 : 0 ≤ (x5_2 : Int) := of_decide_eq_true (by first | (with_reducible assumption) | assumption)
                                        have q137 : x5_2 < (((rd_T57 l0 x3_1).f1).length : Int) := of_decide_eq_true (by first | (with_reducible assumption) | assumption)
                                        obtain ⟨ad137, e137, hx137_0, hx137_1, hx137_2⟩ := at_T59 HR130_1.out x5_2 p137 q137
                                        obtain rfl : ad135 = ad137 := (by injection e137)
                                        replace p137 := eq_true p137
                                        replace q137 := eq_true q137
                                        have p138 : 0 ≤ ((ji14) : Int) := of_decide_eq_true (by first | (with_reducible assumption) | assumption)
                                        have q138 : (ji14) < (((rd_T57 l0 x3_1).f1).length : Int) := of_decide_eq_true (by first | (with_reducible assumption) | assumption)
                                        obtain ⟨ad138, e138, hx138_0, hx138_1, hx138_2⟩ := at_T59 HR130_1.out (ji14) p138 q138
                                        obtain rfl : ad135 = ad138 := (by injection e138)
                                        replace p138 := eq_true p138
                                        replace q138 := eq_true q138
                                        have p139 : 0 ≤ (x5_2 : Int) := of_decide_eq_true (by first | (with_reducible assumption) | assumption)
                                        have q139 : x5_2 < (((rd_T57 l0 x3_1).f1).length : Int) := of_decide_eq_true (by first | (with_reducible assumption) | assumption)
                                        obtain ⟨ad139, e139, hx139_0, hx139_1, hx139_2⟩ := at_T59 HR130_1.out x5_2 p139 q139
                                        obtain rfl : ad135 = ad139 := (by injection e139)
                                        replace p139 := eq_true p139
                                        replace q139 := eq_true q139
                                        have p140 : 0 ≤ ((ji14) : Int) := of_decide_eq_true (by first | (with_reducible assumption) | assumption)
                                        have q140 : (ji14) < (((rd_T57 l0 x3_1).f1).length : Int) := of_decide_eq_true (by first | (with_reducible assumption) | assumption)
                                        obtain ⟨ad140, e140, hx140_0, hx140_1, hx140_2⟩ := at_T59 HR130_1.out (ji14) p140 q140
                                        obtain rfl : ad135 = ad140 := (by injection e140)
                                        replace p140 := eq_true p140
                                        replace q140 := eq_true q140
                                        go_wp2
                                        repeat (go_quiet (fail); try go_wp2)
                                        go_roundg kj5
                                        case measure => have := HK1.out; have := HK2.out; have := HJ5.out; omega
                                        case rel => exact ⟨(wrap64 (x5_2 + 1)), (by first | rfl | (simp; done) | (simp [*]; done)), H', ⟨by have := HK1.out; have := HK2.out; have := HJ5.out; omega⟩, by repeat (first | exact Drawn0.refl _ | apply Drawn0.step)⟩
                                    · rw [if_neg c18] at H
                                      have c18b0 : (((((rd_T59 ((rd_T57 l0 x3_1).f1) x5_2).f0) - ((rd_T59 ((rd_T57 l0 x3_1).f1) (ji14)).f1)) % 256) == 1) = false := beq_eq_false_iff_ne.mpr c18
                                      have c18b1 : (((((rd_T59 ((rd_T57 l0 x3_1).f1) x5_2).f0) - ((rd_T59 ((rd_T57 l0 x3_1).f1) (ji14)).f1)) % 256) != 1) = true := bne_iff_ne.mpr c18
                                      have H' := Aside0.mk H
                                      clear H
                                      have p135 : 0 ≤ (x5_2 : Int) := of_decide_eq_true (by first | (with_reducible assumption) | assumption)
                                      have q135 : x5_2 < (((rd_T57 l0 x3_1).f1).length : Int) := of_decide_eq_true (by first | (with_reducible assumption) | assumption)
                                      obtain ⟨ad135, e135, hx135_0, hx135_1, hx135_2⟩ := at_T59 HR130_1.out x5_2 p135 q135
                                      cases e135
                                      replace p135 := eq_true p135
                                      replace q135 := eq_true q135
                                      have p136 : 0 ≤ ((ji14) : Int) := of_decide_eq_true (by first | (with_reducible assumption) | assumption)
                                      have q136 : (ji14) < (((rd_T57 l0 x3_1).f1).length : Int) := of_decide_eq_true (by first | (with_reducible assumption) | assumption)
                                      obtain ⟨ad136, e136, hx136_0, hx136_1, hx136_2⟩ := at_T59 HR130_1.out (ji14) p136 q136
                                      obtain rfl : ad135 = ad136 := (by injection e136)
                                      replace p136 := eq_true p136
                                      replace q136 := eq_true q136
                                      have p137 : 0 ≤ (x5_2 : Int) := of_decide_eq_true (by first | (with_reducible assumption) | assumption)
                                      have q137 : x5_2 < (((rd_T57 l0 x3_1).f1).length : Int) := of_decide_eq_true (by first | (with_reducible assumption) | assumption)
                                      obtain ⟨ad137, e137, hx137_0, hx137_1, hx137_2⟩ := at_T59 HR130_1.out x5_2 p137 q137
                                      obtain rfl : ad135 = ad137 := (by injection e137)
                                      replace p137 := eq_true p137
                                      replace q137 := eq_true q137
                                      have p138 : 0 ≤ ((ji14) : Int) := of_decide_eq_true (by first | (with_reducible assumption) | assumption)
                                      have q138 : (ji14) < (((rd_T57 l0 x3_1).f1).length : Int) := of_decide_eq_true (by first | (with_reducible assumption) | assumption)
                                      obtain ⟨ad138, e138, hx138_0, hx138_1, hx138_2⟩ := at_T59 HR130_1.out (ji14) p138 q138
                                      obtain rfl : ad135 = ad138 := (by injection e138)
                                      replace p138 := eq_true p138
                                      replace q138 := eq_true q138
                                      go_wp2
                                      repeat (go_quiet (fail); try go_wp2)
                                      go_roundg kj5
                                      case measure => have := HK1.out; have := HK2.out; have := HJ5.out; omega
                                      case rel => exact ⟨(wrap64 (x5_2 + 1)), (by first | rfl | (simp; done) | (simp [*]; done)), H', ⟨by have := HK1.out; have := HK2.out; have := HJ5.out; omega⟩, by repeat (first | exact Drawn0.refl _ | apply Drawn0.step)⟩
                                · rw [if_neg c16] at H
                                  exact absurd H (by simp)
                              · rw [if_neg c15] at H
                                exact absurd H (by simp)
                            · rw [if_neg c13] at H
                              exact absurd H (by simp)
                          · rw [if_neg c12] at H
                            exact absurd H (by simp)
                        · rw [if_neg c11] at H
                          have c11b0 : decide (0 < x5_2) = false := decide_eq_false c11
                          clear c11
                          have H' := Aside0.mk H
                          clear H
                          go_wp2
                          repeat (go_quiet (fail); try go_wp2)
                          go_roundg kj5
                          case measure => have := HK1.out; have := HK2.out; have := HJ5.out; omega
                          case rel => exact ⟨(wrap64 (x5_2 + 1)), (by first | rfl | (simp; done) | (simp [*]; done)), H', ⟨by have := HK1.out; have := HK2.out; have := HJ5.out; omega⟩, by repeat (first | exact Drawn0.refl _ | apply Drawn0.step)⟩
                · rw [if_neg c5] at H
                  have c5b0 : decide (x5_2 < (((rd_T57 l0 x3_1).f1).length : Int)) = false := decide_eq_false c5
                  clear c5
                  have H' := Aside0.mk H
                  clear H
                  go_wp2
                  repeat (go_quiet (fail); try go_wp2)
                  go_roundg k2
                  case measure => have := HK1.out; have := HK2.out; omega
                  case rel => exact ⟨(wrap64 (x3_1 + 1)), (by first | rfl | (simp; done) | (simp [*]; done)), H', ⟨by have := HK1.out; have := HK2.out; omega⟩, by repeat (first | exact Drawn0.refl _ | apply Drawn0.step)⟩
          · rw [if_neg c4] at H
            exact absurd H (by simp)
        · rw [if_neg c3] at H
          have c3b0 : decide (x3_1 < (l0.length : Int)) = false := decide_eq_false c3
          clear c3
          obtain rfl := Option.some.inj H
          go_wp2
          repeat (go_quiet (fail); try go_wp2)
          go_ret
          exact ⟨by first | rfl | (simp; done) | (simp [*]; done), by repeat (first | exact Drawn0.refl _ | apply Drawn0.step)⟩

end Go.Proofs.Ytokdggmobhnnpaa.P
