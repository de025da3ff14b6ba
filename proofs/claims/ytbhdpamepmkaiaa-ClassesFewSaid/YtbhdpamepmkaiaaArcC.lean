/- dfa.each, slices.Collect, dfa.Arcs and ref07.Arcs: contracts. Own text. -/
import Derived.Test.YtbhdpamepmkaiaaColl
import Derived.Test.YtbhdpamepmkaiaaRTab
namespace Go.Proofs.Ytbhdpamepmkaiaa
open Go.RowKit Go.Shelf Go.Proofs.Ytbhdpamepmkaiaa.P Go.Proofs.YtbhdpamepmkaiaaW.PrintWords
set_option linter.unusedVariables false

theorem reps_rowA (w : World) (base : Nat) (ok : Nat → Prop) : ∀ (n : Nat) (l : List S50), l.length = n → Reps (k50.M w base ok) 3 l (rowA l) := by
  intro n
  induction n with
  | zero => intro l hl; rw [List.length_eq_zero_iff.1 hl]; exact Reps.none _ _
  | succ n ih =>
    intro l hl
    have hne : l ≠ [] := by intro e; rw [e] at hl; simp at hl
    have h := ih l.dropLast (by simp [hl])
    have h2 := h.snoc (k50_mkM w base ok (l.getLast hne)) rfl
    rw [List.dropLast_concat_getLast] at h2
    have h3 : rowA l = rowA l.dropLast ++ cellsA (l.getLast hne) := by
      conv => lhs; rw [← List.dropLast_concat_getLast hne]
      exact rowA_snoc _ _
    rw [h3]; exact h2
theorem rowA_R {w : World} {base : Nat} {v : Value} {l : List S50} (h : w.ownsRow base 50 3 v l.length (rowA l)) : k50.R 50 w base (fun _ => True) v l :=
  ⟨fun _ _ => trivial, _, h, reps_rowA w base _ _ l rfl⟩

set_option maxRecDepth 20000 in
theorem each_c (cl : List Int) (w : World) (hl : cl.length = 256) :
    Calls Try.prog 32 #[.agg (arI .i64 cl)] w fun e w' => e = .returned (.func (.func 34) #[] #[.pointer (some ⟨w.heap.size, 0, none⟩)]) ∧ w' = w.alloc (.cells (arI .i64 cl) 51) := by
  generalize hA : arI .i64 cl = C
  clear hA
  go_enter Try.func32, Try.ntmps32
  go_wp2
  go_ret
  exact ⟨rfl, rfl⟩

set_option maxRecDepth 20000 in
theorem collect_c (Bt : Nat) (tv : List Int) (htv : tv.length = 256) (w : World) (hBt : Bt < w.heap.size) (hb : Blk w Bt 51 (arI .i64 tv)) :
    Calls Try.prog 31 #[.func (.func 34) #[] #[.pointer (some ⟨Bt, 0, none⟩)]] w fun e w' => ∃ v, e = .returned v ∧ k50.R 50 w' w.heap.size (fun _ => True) v (rarcs tv 256) ∧ Below w.heap.size w w' := by
  have H := Lib.hid ((callsIn_wide (n := 3)).1 (appendSeq_in 3 (Nat.le_refl _) Bt tv htv w hBt hb))
  clear hb
  go_enter Try.func31, Try.ntmps31
  go_wp2_with (go_at_call 33; refine H.out.mono ?_; rintro e w1 ⟨v, rfl, hr1, hb1⟩)
  go_ret
  exact ⟨_, rfl, rowA_R hr1, hb1⟩
set_option maxRecDepth 20000 in
theorem arcs_c (tv : List Int) (htv : tv.length = 256) (w : World) :
    Calls Try.prog 29 #[.agg (arI .i64 tv)] w fun e w' => ∃ v, e = .returned v ∧ k50.R 50 w' w.heap.size (fun _ => True) v (rarcs tv 256) ∧ Below w.heap.size w w' := by
  have hE := Lib.hid (each_c tv (w.alloc (.cells (arI .i64 tv) 51)) htv)
  have hb2 := Lib.hid (Blk.new (w.alloc (.cells (arI .i64 tv) 51)) 51 (arI .i64 tv))
  have hB := Lib.hid (below_alloc (below_alloc (Below.refl w.heap.size w) (.cells (arI .i64 tv) 51)) (.cells (arI .i64 tv) 51))
  have hC := Lib.hid (collect_c (w.heap.size + 1) tv htv ((w.alloc (.cells (arI .i64 tv) 51)).alloc (.cells (arI .i64 tv) 51)) (by simp) (by have h := hb2.out; rwa [show (w.alloc (.cells (arI .i64 tv) 51)).heap.size = w.heap.size + 1 by simp] at h))
  have hsz : (arI .i64 tv).size = 256 := by rw [arI_size, htv]
  generalize hA : arI .i64 tv = C at *
  clear hA
  go_enter Try.func29, Try.ntmps29
  go_wp2_with (first
    | (refine wpList_load_row rfl 51 (.tmp 1) rfl w.heap.size rfl 51 _ (0, 0) _ (Blk.new w 51 C) Try.underlying51 rfl ?_ ?_; (rw [hsz]; exact size51))
    | (go_at_call 32; refine hE.out.mono ?_; rintro e w1 ⟨rfl, rfl⟩)
    | (go_at_call 31; refine hC.out.mono ?_; rintro e w2 ⟨v, rfl, hr, hb2⟩))
  go_ret
  refine ⟨_, rfl, Kd.R_lower hr (by simp; omega), ?_⟩
  exact below_then hB.out (by simp; omega) hb2
end Go.Proofs.Ytbhdpamepmkaiaa
