/- bytes.Equal, bytes.HasPrefix, bytes.CutPrefix: their walks. Own text. -/
import Derived.Test.YtokdggmobhnnpaaHRd
import Derived.Lib.SlBytesConst
namespace Go.Proofs.Ytokdggmobhnnpaa
open Go.RowKit Go.Proofs.Ytokdggmobhnnpaa.P Go.Proofs.Ytokdggmobhnnpaa.Enc Go.Proofs.YtokdggmobhnnpaaW.PrintWords Go.Proofs.YtokdggmobhnnpaaW.PrintLast Go.Proofs.YtokdggmobhnnpaaW.PrintMore
set_option linter.unusedVariables false
set_option linter.unusedSimpArgs false

def Bts (xs : List Int) : Prop := ∀ x ∈ xs, 0 ≤ x ∧ x ≤ 255
theorem strOf_inj : ∀ xs ys : List Int, Bts xs → Bts ys → strOfNums xs = strOfNums ys → xs = ys := by
  have key : ∀ xs ys : List Int, Bts xs → Bts ys → (xs.map fun n => UInt8.ofNat n.toNat) = (ys.map fun n => UInt8.ofNat n.toNat) → xs = ys := by
    intro xs
    induction xs with
    | nil => intro ys _ _ h; cases ys with
      | nil => rfl
      | cons y ys => simp at h
    | cons x xs ih =>
      intro ys hx hy h
      cases ys with
      | nil => simp at h
      | cons y ys =>
        simp only [List.map_cons, List.cons.injEq] at h
        have h1 := congrArg UInt8.toNat h.1
        have hx0 := hx x (by simp)
        have hy0 := hy y (by simp)
        simp only [UInt8.toNat_ofNat'] at h1
        rw [ih ys (fun z hz => hx z (by simp [hz])) (fun z hz => hy z (by simp [hz])) h.2]
        congr 1
        omega
  intro xs ys hx hy h
  unfold strOfNums at h
  injection h with h
  exact key xs ys hx hy (by simpa using h)
theorem conv_c {w : World} {A : Option Addr} {n c : Nat} {xs : List Int} (h : (Kd.int .u8).C w A n xs) : (convert 25 9 (.slice A n c)).run Try.prog w = .ok (.string (strOfNums xs)) w :=
  Kd.C_string (P := Try.prog) (src := 25) (dst := 9) (e := 5) Try.underlying25 Try.underlying5 Try.underlying9 h
theorem equal_c {w : World} {A1 A2 : Option Addr} {n1 n2 c1 c2 : Nat} {xs ys : List Int} (h1 : (Kd.int .u8).C w A1 n1 xs) (h2 : (Kd.int .u8).C w A2 n2 ys) (hx : Bts xs) (hy : Bts ys) :
    Calls Try.prog 28 #[.slice A1 n1 c1, .slice A2 n2 c2] w fun e w' => e = .returned (.bool (decide (xs = ys))) ∧ w' = w := by
  have hcv1 := conv_c (c := c1) h1
  have hcv2 := conv_c (c := c2) h2
  have hd : Hid (decide (xs = ys) = ((strOfNums xs).toList == (strOfNums ys).toList)) := Lib.hid (by
    rw [Bool.eq_iff_iff]
    simp only [decide_eq_true_eq, beq_iff_eq, ByteArray.toList_eq]
    refine ⟨fun h => by rw [h], fun h => strOf_inj xs ys hx hy ?_⟩
    have h2 := Array.ext' h
    have e : ∀ s t : ByteArray, s.data = t.data → s = t := fun s t h => by cases s; cases t; simp only at h; rw [h]
    exact e _ _ h2)
  rw [hd.out]
  clear h1 h2 hx hy
  go_enter Try.func28, Try.ntmps28
  go_wp2
  go_ret
  exact ⟨rfl, rfl⟩
theorem C_take {w : World} {A : Option Addr} {xs : List Int} (h : (Kd.int .u8).C w A xs.length xs) (k : Nat) (hk : k ≤ xs.length) : (Kd.int .u8).C w A k (xs.take k) := by
  have hl : (xs.take k).length = k := by rw [List.length_take]; omega
  refine Kd.C_of_reads (d := (0 : Int)) ⟨hl, by have := h.2.1; omega, fun h0 => ?_⟩
  obtain ⟨ad, e, _⟩ := Kd.at_int h 0 (by omega) (by omega)
  refine ⟨ad, e, fun j hj => ?_⟩
  obtain ⟨ad', e', hc⟩ := Kd.at_int h (j : Int) (by omega) (by omega)
  rw [e] at e'
  injection e' with e'
  subst e'
  rw [Int.toNat_natCast] at hc
  rw [hc]
  simp only [rd, Int.toNat_natCast, List.getD_eq_getElem?_getD]
  rw [List.getElem?_take, if_pos hj]
/-- HasPrefix of four bytes. -/
theorem hasPrefix_c {w : World} {A A2 : Option Addr} {c c2 : Nat} {xs ys : List Int} (h : (Kd.int .u8).C w A xs.length xs) (hc : xs.length ≤ c) (h2 : (Kd.int .u8).C w A2 4 ys) (hx : Bts xs) (hy : Bts ys) (hl : xs.length ≤ 1000000000) :
    Calls Try.prog 33 #[.slice A xs.length c, .slice A2 4 c2] w fun e w' => e = .returned (.bool (decide (xs.take 4 = ys))) ∧ w' = w := by
  have hy4 : ys.length = 4 := h2.1
  by_cases h4 : 4 ≤ xs.length
  · have hd : decide ((4 : Int) ≤ (xs.length : Int)) = true := decide_eq_true (by omega)
    have heq := Lib.hid (fun c => equal_c (c1 := c) (c2 := c2) (C_take h 4 h4) h2 (fun x hx' => hx x (List.mem_of_mem_take hx')) hy)
    obtain ⟨ad, rfl, _⟩ := Kd.at_int h 0 (by omega) (by omega)
    generalize decide (xs.take 4 = ys) = r at *
    clear h h2 hx hy
    go_enter Try.func33, Try.ntmps33
    go_wp2_with (go_at_call 28; refine (heq.out _).mono ?_; rintro e w1 ⟨rfl, rfl⟩)
    go_ret
    exact ⟨rfl, rfl⟩
  · have hd : decide ((4 : Int) ≤ (xs.length : Int)) = false := decide_eq_false (by omega)
    have hf : Hid (decide (xs.take 4 = ys) = false) := Lib.hid (decide_eq_false (fun e => by
      have := congrArg List.length e
      rw [List.length_take] at this
      omega))
    rw [hf.out]
    clear h h2 hx hy
    go_enter Try.func33, Try.ntmps33
    go_wp2
    go_ret
    exact ⟨rfl, rfl⟩
/-- CutPrefix of four bytes: where there is no such prefix; where there is one and more than four bytes behind it; where there are fewer. -/
theorem cut_no {w : World} {A A2 : Option Addr} {c c2 : Nat} {xs ys : List Int} (h : (Kd.int .u8).C w A xs.length xs) (hc : xs.length ≤ c) (h2 : (Kd.int .u8).C w A2 4 ys) (hx : Bts xs) (hy : Bts ys) (hl : xs.length ≤ 1000000000) (hp : ¬ xs.take 4 = ys) :
    Calls Try.prog 27 #[.slice A xs.length c, .slice A2 4 c2] w fun e w' => e = .returned (.tuple #[.slice A xs.length c, .bool false]) ∧ w' = w := by
  have hh := Lib.hid (hasPrefix_c (c2 := c2) h hc h2 hx hy hl)
  rw [decide_eq_false hp] at hh
  clear h h2 hx hy
  go_enter Try.func27, Try.ntmps27
  go_wp2_with (go_at_call 33; refine hh.out.mono ?_; rintro e w1 ⟨rfl, rfl⟩)
  go_ret2
  exact ⟨rfl, rfl⟩
theorem cut_yes {w : World} {ad : Addr} {A2 : Option Addr} {c c2 : Nat} {xs ys : List Int} (h : (Kd.int .u8).C w (some ad) xs.length xs) (hc : xs.length ≤ c) (h2 : (Kd.int .u8).C w A2 4 ys) (hx : Bts xs) (hy : Bts ys) (hl : xs.length ≤ 1000000000) (hp : xs.take 4 = ys) :
    Calls Try.prog 27 #[.slice (some ad) xs.length c, .slice A2 4 c2] w fun e w' => ∃ a', e = .returned (.tuple #[.slice (some a') (xs.length - 4) (c - 4), .bool true]) ∧ (4 < c → a' = ad.add 4) ∧ w' = w := by
  have hy4 : ys.length = 4 := h2.1
  have h4 : 4 ≤ xs.length := by
    have := congrArg List.length hp
    rw [List.length_take] at this
    omega
  have hh := Lib.hid (hasPrefix_c (c2 := c2) h hc h2 hx hy hl)
  rw [decide_eq_true hp] at hh
  clear h h2 hx hy
  by_cases hc4 : c = 4
  · have hx4 : xs.length = 4 := by omega
    rw [hx4] at hh
    rw [hx4]
    subst hc4
    go_enter Try.func27, Try.ntmps27
    go_wp2_with (go_at_call 33; refine hh.out.mono ?_; rintro e w1 ⟨rfl, rfl⟩)
    go_ret2
    exact ⟨_, rfl, fun h => absurd h (by omega), rfl⟩
  · have hc5 : 4 < c := by omega
    go_enter Try.func27, Try.ntmps27
    go_wp2_with (go_at_call 33; refine hh.out.mono ?_; rintro e w1 ⟨rfl, rfl⟩)
    go_ret2
    exact ⟨_, rfl, fun _ => rfl, rfl⟩
end Go.Proofs.Ytokdggmobhnnpaa
