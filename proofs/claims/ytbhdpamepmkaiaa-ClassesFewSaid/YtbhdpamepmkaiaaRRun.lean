/- homographref10.Run: its walk. Own text. -/
import Derived.Test.YtbhdpamepmkaiaaRun
namespace Go.Proofs.Ytbhdpamepmkaiaa
open Go.RowKit Go.Proofs.Ytbhdpamepmkaiaa.P Go.Proofs.Ytbhdpamepmkaiaa.Plain Go.Proofs.YtbhdpamepmkaiaaW.PrintWords Go.Proofs.YtbhdpamepmkaiaaW.PrintLast Go.Proofs.YtbhdpamepmkaiaaW.PrintMore
set_option linter.unusedVariables false

theorem runE_neg (cl : List Int) (t : List (List Int)) (bs : List UInt8) : runE cl t (-1) bs = -1 := by
  induction bs with
  | nil => rfl
  | cons c bs ih =>
    show runE cl t (entryM cl t (-1) c.toNat) bs = -1
    rw [entryM, if_neg (by omega)]; exact ih
/-- What the reference's rounds hold. -/
def RInv (cl : List Int) (t : List (List Int)) (s : ByteArray) (k : Nat) (x : Int) : Prop :=
  (k = 0 ∧ x = 0) ∨ (0 < k ∧ t.length ≠ 0 ∧ runT cl t s = runE cl t (if x < -1 then -1 else x) (s.data.toList.drop k))
theorem RInv.at_ {cl : List Int} {t : List (List Int)} {s : ByteArray} {k : Nat} {x : Int} (h : RInv cl t s k x) (hx : 0 ≤ x) (ht : t.length ≠ 0) : runT cl t s = runE cl t x (s.data.toList.drop k) := by
  rcases h with ⟨rfl, rfl⟩ | ⟨h1, h2, h3⟩
  · rw [runT, if_neg ht]; rfl
  · rw [if_neg (by omega)] at h3; exact h3
theorem RInv.neg {cl : List Int} {t : List (List Int)} {s : ByteArray} {k : Nat} {x : Int} (h : RInv cl t s k x) (hx : x < 0) : runT cl t s = -1 := by
  rcases h with ⟨rfl, rfl⟩ | ⟨h1, h2, h3⟩
  · omega
  · rw [h3]
    have : (if x < -1 then -1 else x) = -1 := by split <;> omega
    rw [this, runE_neg]
theorem drop_byte (s : ByteArray) (k : Nat) (hk : k < s.size) : s.data.toList.drop k = (s[k]'hk) :: s.data.toList.drop (k + 1) := List.drop_eq_getElem_cons (by simpa using hk)
theorem RInv.big {cl : List Int} {t : List (List Int)} {s : ByteArray} {k : Nat} {x : Int} (h : RInv cl t s k x) (hx : 0 ≤ x) (hb : (t.length : Int) ≤ x) (hk : k < s.size ∨ k = 0) : runT cl t s = -1 := by
  by_cases ht : t.length = 0
  · rw [runT, if_pos ht]
  · rcases hk with hk | rfl
    · rw [h.at_ hx ht, drop_byte s k hk]
      show runE cl t (entryM cl t x _) _ = -1
      rw [entryM, if_neg (by omega), runE_neg]
    · rcases h with ⟨_, rfl⟩ | ⟨h1, _⟩
      · omega
      · omega
theorem RInv.bigEnd {cl : List Int} {t : List (List Int)} {s : ByteArray} {x : Int} (h : RInv cl t s s.size x) (hx : 0 ≤ x) (hk : 0 < s.size) : runT cl t s = x := by
  rcases h with ⟨h1, _⟩ | ⟨h1, h2, h3⟩
  · omega
  · rw [h3, if_neg (by omega), List.drop_of_length_le (by simp)]; rfl
theorem RInv.end_ {cl : List Int} {t : List (List Int)} {s : ByteArray} {x : Int} (h : RInv cl t s s.size x) (hx : 0 ≤ x) (hb : x < (t.length : Int)) : runT cl t s = x := by
  rw [h.at_ hx (by omega), List.drop_of_length_le (by simp)]; rfl
theorem RInv.short {cl : List Int} {t : List (List Int)} {s : ByteArray} {k : Nat} {x : Int} (h : RInv cl t s k x) (hx : 0 ≤ x) (hb : x < (t.length : Int)) (hk : k < s.size)
    (hn : ((t.getD x.toNat []).length : Int) ≤ cl.getD (s[k]'hk).toNat 0) : runT cl t s = -1 := by
  rw [h.at_ hx (by omega), drop_byte s k hk]
  show runE cl t (entryM cl t x _) _ = -1
  rw [entryM, if_pos ⟨hx, hb⟩, if_neg (by omega), runE_neg]
theorem RInv.next {cl : List Int} {t : List (List Int)} {s : ByteArray} {k : Nat} {x : Int} (h : RInv cl t s k x) (hx : 0 ≤ x) (hb : x < (t.length : Int)) (hk : k < s.size)
    (hn : cl.getD (s[k]'hk).toNat 0 < ((t.getD x.toNat []).length : Int)) : RInv cl t s (k + 1) ((t.getD x.toNat []).getD (cl.getD (s[k]'hk).toNat 0).toNat 0) := by
  refine .inr ⟨by omega, by omega, ?_⟩
  rw [h.at_ hx (by omega), drop_byte s k hk]
  show runE cl t (entryM cl t x _) _ = _
  rw [entryM, if_pos ⟨hx, hb⟩, if_pos hn]

set_option maxRecDepth 20000 in
set_option maxHeartbeats 2000000 in
theorem rrun_c {w : World} {v : Value} {t : List (List Int)} (h : IsT w v t) (cl : List Int) (hl : cl.length = 256) (hr : ∀ x ∈ cl, 0 ≤ x ∧ x ≤ 255) (s : ByteArray) (hs : s.size ≤ 4096) :
    Calls Try.prog 19 #[.agg (arI .u8 cl), v, .string s] w fun e w' => e = .returned (.int .i64 (runT cl t s)) ∧ Below w.heap.size w w' := by
  have hbel := Lib.hid (below_alloc (Below.refl w.heap.size w) (.cells (arI .u8 cl) 24))
  have hT := Lib.hid (h.below hbel.out)
  obtain ⟨A, c, rfl, hc, hC⟩ := h
  have hlm : t.length ≤ 9223372036854775807 := hC.2.1
  have hcl := Lib.hid (fun (b : Nat) (hb : b < 256) => (Blk.new w 24 (arI .u8 cl)).cellI b (by rw [hl]; exact hb))
  have hrH := Lib.hid (fun (b : Nat) (hb : b < 256) => hr (cl.getD b 0) (by rw [List.getD_eq_getElem?_getD, List.getElem?_eq_getElem (by omega)]; exact List.getElem_mem _))
  clear hl hr hC hc
  generalize hA : arI .u8 cl = C at *
  clear hA
  go_enter Try.func19, Try.ntmps19
  go_wp2_with fail
  generalize w.alloc (.cells C 24) = W at *
  go_loop [7, 8] (fun at_ ii => ∃ (k : Nat) (x : Int), k ≤ s.size ∧ ii = .int .i64 k ∧ at_ = .int .i64 x ∧ Hid (RInv cl t s k x)) (fun _ i => s.size + 1 - (intOf i).toNat)
  case atStart => exact ⟨0, 0, by omega, rfl, rfl, .inl ⟨rfl, rfl⟩⟩
  case round =>
    obtain ⟨k, x, hk, rfl, rfl, hR⟩ := hrel
    have hd0 : decide ((k : Int) ≤ (s.size : Int)) = true := decide_eq_true (by omega)
    by_cases hx : x < 0
    · have hd : decide (x < 0) = true := decide_eq_true hx
      have hres := Lib.hid (hR.out.neg hx)
      have hd2 : decide (0 ≤ x) = false := decide_eq_false (by omega)
      go_wp2
      all_goals (go_ret; exact ⟨by rw [hres.out]; rfl, hbel.out⟩)
    · have hd : decide (x < 0) = false := decide_eq_false hx
      have hd2 : decide (0 ≤ x) = true := decide_eq_true (by omega)
      by_cases hb : (t.length : Int) ≤ x
      · have hdb : decide ((t.length : Int) ≤ x) = true := decide_eq_true hb
        by_cases hks : k < s.size
        · have hres := Lib.hid (hR.out.big (by omega) hb (.inl hks))
          have hde : ((k : Int) == (s.size : Int)) = false := by simp; omega
          go_wp2
          all_goals (go_ret; exact ⟨by rw [hres.out]; rfl, hbel.out⟩)
        · obtain rfl : k = s.size := by omega
          by_cases hz : 0 < s.size
          · have hres := Lib.hid (hR.out.bigEnd (by omega) hz)
            have hdz : decide ((0 : Int) < (s.size : Int)) = true := decide_eq_true (by omega)
            go_wp2
            all_goals (go_ret; exact ⟨by rw [hres.out]; rfl, hbel.out⟩)
          · have hres := Lib.hid (hR.out.big (by omega) hb (.inr (by omega)))
            have hdz : decide ((0 : Int) < (s.size : Int)) = false := decide_eq_false (by omega)
            go_wp2
            all_goals (go_ret; exact ⟨by rw [hres.out]; rfl, hbel.out⟩)
      · have hdb : decide ((t.length : Int) ≤ x) = false := decide_eq_false hb
        obtain ⟨i, rfl⟩ := Int.eq_ofNat_of_zero_le (by omega : 0 ≤ x)
        by_cases hks : k < s.size
        · have hde : ((k : Int) == (s.size : Int)) = false := by simp; omega
          obtain ⟨_, ad, A0, c0, hA0, hrow, hels⟩ := hT.out.row i (by omega)
          subst hA0
          have hbb : (s[k]'hks).toNat < 256 := UInt8.toNat_lt _
          have hcb := hcl.out _ hbb
          have hxb := hrH.out _ hbb
          have hsh := Lib.hid (fun hn => hR.out.short (by omega) (by omega) hks hn)
          have hnx := Lib.hid (fun hn => hR.out.next (by omega) (by omega) hks hn)
          generalize cl.getD (s[k]'hks).toNat 0 = y at *
          obtain ⟨n, rfl⟩ := Int.eq_ofNat_of_zero_le hxb.1
          simp only [Int.toNat_natCast] at hsh hnx
          generalize t.getD i [] = row at *
          by_cases h2 : n < row.length
          · obtain ⟨ae, hae, hel⟩ := hels n h2
            subst hae
            clear hels hsh
            have hd3 : decide ((row.length : Int) ≤ (n : Int)) = false := decide_eq_false (by omega)
            have hnx2 := Lib.hid (hnx.out (by omega))
            clear hnx
            generalize row.getD n 0 = z at *
            go_wp2
            go_round
            case rel => exact ⟨k + 1, z, by omega, by go_num, rfl, hnx2⟩
            case measure => simp [intOf]; omega
          · clear hels hnx
            have hres := Lib.hid (hsh.out (by omega))
            clear hsh
            have hd3 : decide ((row.length : Int) ≤ (n : Int)) = true := decide_eq_true (by omega)
            go_wp2
            all_goals (go_ret; exact ⟨by rw [hres.out]; rfl, hbel.out⟩)
        · obtain rfl : k = s.size := by omega
          have hres := Lib.hid (hR.out.end_ (by omega) (by omega))
          go_wp2
          all_goals (go_ret; exact ⟨by rw [hres.out]; rfl, hbel.out⟩)
end Go.Proofs.Ytbhdpamepmkaiaa
