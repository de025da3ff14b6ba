/- DfacodeTurned: plain. Own text. -/
import Derived.Test.YtokdggmobhnnpaaOpenB
import Derived.Test.YtokdggmobhnnpaaRChk
import Derived.Lib.ConvBytes
namespace Go.Proofs.Ytokdggmobhnnpaa
open Go.RowKit Go.Proofs.Ytokdggmobhnnpaa.P Go.Proofs.Ytokdggmobhnnpaa.Enc Go.Proofs.YtokdggmobhnnpaaW.PrintWords
set_option linter.unusedVariables false

theorem and_bd (a : Int) : ∃ p : Nat, Go.bits .and .i64 a 65535 = (p : Int) ∧ p ≤ 65535 := by
  have h : (BitVec.ofInt IntKind.i64.bits a &&& BitVec.ofInt IntKind.i64.bits 65535).toNat ≤ 65535 := by
    rw [BitVec.toNat_and]
    exact Nat.le_trans Nat.and_le_right (by decide)
  refine ⟨_, ?_, h⟩
  simp only [Go.bits]
  rw [IntKind.wrap_i64]
  omega
theorem xor_u8 (a b : Nat) (ha : a < 256) (hb : b < 256) : Go.bits .xor .u8 (a : Int) (b : Int) = ((a ^^^ b : Nat) : Int) ∧ a ^^^ b < 256 := by
  have hx : a ^^^ b < 2 ^ 8 := Nat.xor_lt_two_pow ha hb
  have ha' : a % 2 ^ IntKind.u8.bits = a := Nat.mod_eq_of_lt ha
  have hb' : b % 2 ^ IntKind.u8.bits = b := Nat.mod_eq_of_lt hb
  refine ⟨?_, hx⟩
  simp only [Go.bits, BitVec.ofInt_natCast, BitVec.toNat_xor, BitVec.toNat_ofNat, ha', hb']
  rw [IntKind.wrap_u8]
  omega
theorem xor_other (x y : Int) (hx : 0 ≤ x ∧ x ≤ 255) (hy : 1 ≤ y ∧ y ≤ 255) : (0 ≤ Go.bits .xor .u8 x y ∧ Go.bits .xor .u8 x y ≤ 255) ∧ Go.bits .xor .u8 x y ≠ x := by
  obtain ⟨a, rfl⟩ := Int.eq_ofNat_of_zero_le hx.1
  obtain ⟨b, rfl⟩ := Int.eq_ofNat_of_zero_le (show 0 ≤ y by omega)
  obtain ⟨h1, h2⟩ := xor_u8 a b (by omega) (by omega)
  rw [h1]
  refine ⟨by omega, fun e => ?_⟩
  have e2 : a ^^^ b = a ^^^ 0 := by rw [Nat.xor_zero]; omega
  have := xor_inj2 b 0 a e2
  omega
theorem get_turned (m : List S57) (hg : goodB m = true) (ho : OkM m) (k : Nat) (hk : k < (putL m).length) (c : Int) (hc : 0 ≤ c ∧ c ≤ 255) (hne : c ≠ (putL m).getD k 0) : getL ((putL m).set k c) = ([], 110) := by
  have hb : ∀ x ∈ (putL m).set k c, 0 ≤ x ∧ x ≤ 255 := fun x hx => by
    rcases List.mem_or_eq_of_mem_set hx with h | h
    · exact putL_bd m ho x h
    · subst h; exact hc
  rcases get_spec _ hb with h | ⟨m', _, hg', ho', e⟩
  · exact h.1
  · exact (putL_turned m m' ho ho' k hk c hc hne e).elim
theorem get_cut (m : List S57) (hg : goodB m = true) (ho : OkM m) (k : Nat) (hk : k < (putL m).length) : getL ((putL m).take k) = ([], 110) := by
  rcases get_spec _ (fun x hx => putL_bd m ho x (List.mem_of_mem_take hx)) with h | ⟨m', _, hg', ho', e⟩
  · exact h.1
  · exact (putL_cut m m' ho ho' k hk e).elim
theorem strOf_size (xs : List Int) : (strOfNums xs).size = xs.length := by simp [strOfNums, ByteArray.size]
theorem C_bytes (w : World) (xs : List Int) (hx : Bts xs) (hl : xs.length ≤ 1000000000) : (Kd.int .u8).C (Lib.bytesWorld w 5 (strOfNums xs)) (some ⟨w.heap.size, 0, none⟩) xs.length xs := by
  refine Kd.C_of_reads (d := (0 : Int)) ⟨rfl, by omega, fun _ => ⟨_, rfl, fun j hj => ?_⟩⟩
  have h := Lib.bytesWorld_cell w 5 (strOfNums xs) j (by rw [strOf_size]; exact hj)
  have ea : (⟨w.heap.size, 0, none⟩ : Addr).add j = ⟨w.heap.size, j, none⟩ := by
    unfold Addr.add; split
    · simp_all
    · simp
  rw [ea, h]
  have hb := hx xs[j] (List.getElem_mem hj)
  have e : ((strOfNums xs).data.toList.getD j 0).toNat = (xs[j]).toNat := by
    simp only [strOfNums, List.getD_eq_getElem?_getD]
    simp [hj]
    omega
  rw [e, List.getD_eq_getElem?_getD, List.getElem?_eq_getElem hj]
  congr 2
  simp only [Option.getD_some]
  omega
theorem C_set {w : World} {g : Nat} {xs : List Int} (h : (Kd.int .u8).C w (some ⟨g, 0, none⟩) xs.length xs) (k : Nat) (c : Int) (hk : k < xs.length) :
    (Kd.int .u8).C (w.setCell ⟨g, k, none⟩ (.int .u8 c)) (some ⟨g, 0, none⟩) (xs.set k c).length (xs.set k c) := by
  refine Kd.C_of_reads (d := (0 : Int)) ⟨rfl, by have := h.2.1; rw [List.length_set]; exact this, fun _ => ⟨_, rfl, fun j hj => ?_⟩⟩
  rw [List.length_set] at hj
  have ea : ∀ j, (⟨g, 0, none⟩ : Addr).add j = ⟨g, j, none⟩ := fun j => by
    unfold Addr.add; split
    · simp_all
    · simp
  obtain ⟨ad, e, hc⟩ := Kd.at_int h (j : Int) (by omega) (by omega)
  injection e with e
  subst e
  rw [Int.toNat_natCast, ea] at hc
  rw [ea, List.getD_eq_getElem?_getD]
  by_cases e : k = j
  · subst e
    rw [List.getElem?_set_self hk]
    obtain ⟨ad, e, hc'⟩ := Kd.at_int h (k : Int) (by omega) (by omega)
    exact World.cell?_setCell_same w _ _ (by rw [hc])
  · rw [List.getElem?_set_ne e, World.cell?_setCell_other w _ _ _ (by simp), hc]
    simp [rd, hj]
end Go.Proofs.Ytokdggmobhnnpaa
