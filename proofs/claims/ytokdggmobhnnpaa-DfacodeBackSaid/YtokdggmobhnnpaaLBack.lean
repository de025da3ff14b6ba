/- DfacodeBack: plain; its contract over a machine and bytes that came in. Own text. -/
import Derived.Test.YtokdggmobhnnpaaP10
import Derived.Test.YtokdggmobhnnpaaOpen
import Derived.Test.YtokdggmobhnnpaaOpenB
namespace Go.Proofs.Ytokdggmobhnnpaa
open Go.RowKit Go.Proofs.Ytokdggmobhnnpaa.P Go.Proofs.Ytokdggmobhnnpaa.Enc Go.Proofs.YtokdggmobhnnpaaW.PrintWords Go.Proofs.YtokdggmobhnnpaaW.PrintLast Go.Proofs.YtokdggmobhnnpaaW.PrintMore
set_option linter.unusedVariables false

theorem back_f (m : List S57) (n : Int) (more : List Int) (hS : ∀ s ∈ m, StB s) (hm : m.length ≤ 9223372036854775807) (hn : 0 ≤ n ∧ n < 18446744073709551616) (hb : Bts more) : ∃ k, homographlaw11_DfacodeBack.f k m n more = some true := by
  obtain ⟨N, rfl⟩ := Int.eq_ofNat_of_zero_le hn.1
  obtain ⟨K0, hK0⟩ := same_any m hS hm
  have hpre := preP_of m hS
  refine ⟨K0 + 300, ?_⟩
  unfold homographlaw11_DfacodeBack.f homographlaw11_awake.f
  simp only [Option.bind_some]
  rw [if_pos trivial]
  by_cases h30 : (m.length : Int) > 30
  · rw [if_pos h30]
    simp only [homographlaw11_DfacodeBack.j0]
    rw [if_pos trivial]
  · rw [if_neg h30]
    by_cases h60 : (more.length : Int) > 60
    · rw [decide_eq_true h60]
      simp only [homographlaw11_DfacodeBack.j0]
      rw [if_pos trivial]
    · rw [decide_eq_false h60]
      simp only [homographlaw11_DfacodeBack.j0]
      have hl10 := num_len10 N (by omega)
      have hlp := num_len_pos N
      rw [if_neg (by simp), number_f (N : Int) (by omega) (by omega) (K0 + 299) (by omega)]
      simp only [Option.bind_some, Int.toNat_natCast]
      rw [if_pos (by omega)]
      have hbb : Bts (num N ++ more) := fun x hx => by
        rcases List.mem_append.1 hx with hx | hx
        · exact num_bd N x hx
        · exact hb x hx
      have hv : valL (num N ++ more) = ((N : Int), ((num N).length : Int)) := by
        unfold valL
        rw [dec_num N 0 more (by omega) (by simpa using (show N < 18446744073709551616 by omega)) (.inr rfl)]
      rw [value_f (num N ++ more) hbb (by rw [List.length_append]; omega) (K0 + 299) (by rw [List.length_append]; omega), hv]
      simp only [Option.bind_some]
      unfold P.dfacode_Put.f
      rw [if_pos hpre]
      simp only [Option.bind_some]
      by_cases hg : goodB m = true
      · have ho := hpre.2 hg
        rw [if_pos hg]
        have hbl := body_len m hg ho
        rw [get_f (putL m) (putL_bd m ho) (by unfold putL; rw [List.length_append, four_len]; omega), get_put m hg ho]
        simp only [Option.bind_some]
        rw [if_pos trivial, if_pos trivial, if_neg (by omega), decide_eq_false (by omega)]
        simp only [homographlaw11_DfacodeBack.j1]
        rw [if_neg (by simp), if_pos trivial, if_pos trivial, hK0 _ (by omega)]
        rfl
      · rw [if_neg hg]
        have hg0 : getL [] = ([], 110) := get_no (fun h => by have := h.2.1; simp at this)
        rw [get_f [] (fun x hx => by simp at hx) (by simp), hg0]
        simp only [Option.bind_some]
        rw [if_pos trivial, if_pos trivial, if_neg (by omega), decide_eq_false (by omega)]
        simp only [homographlaw11_DfacodeBack.j1]
        rw [if_neg (by simp), if_neg (by omega), if_pos trivial, if_pos (by simp)]
        rfl
theorem dfacodeBack_c {w : World} {v vb : Value} {m : List S57} {more : List Int} {n : Int} (h : IsM w v m) (hS : ∀ s ∈ m, StB s) (hn : 0 ≤ n ∧ n < 18446744073709551616) (hB : IsB w vb more) (hb : Bts more) :
    Calls Try.prog 5 #[v, .int .u64 n, vb] w fun e w' => e = .returned (.bool true) ∧ Below w.heap.size w w' := by
  obtain ⟨A, c, rfl, h2, h3⟩ := h
  obtain ⟨A', c', rfl, h2', h3'⟩ := hB
  obtain ⟨k, hk⟩ := back_f m n more hS h3.2.1 hn hb
  exact homographlaw11_DfacodeBack.calls k A c m n A' c' more true w h3 h2 h3' h2' hk
end Go.Proofs.Ytokdggmobhnnpaa
