/- The printed contracts, without a number of rounds: what each function comes to is a plain function. Own text. -/
import Derived.Test.YtbhdpamepmkaiaaPlain
import Derived.Test.YtbhdpamepmkaiaaArr
import Derived.Outline
import Derived.Lib.Hide
import Derived.Deep.DeepMust
namespace Go.Proofs.Ytbhdpamepmkaiaa
open Go.RowKit Go.Proofs.Ytbhdpamepmkaiaa.P Go.Proofs.Ytbhdpamepmkaiaa.Plain Go.Proofs.YtbhdpamepmkaiaaW.PrintWords Go.Proofs.YtbhdpamepmkaiaaW.PrintLast Go.Proofs.YtbhdpamepmkaiaaW.PrintMore
set_option linter.unusedVariables false

/-- A machine that is read: the slice's value, and what it holds. -/
def IsM (w : World) (v : Value) (m : List S48) : Prop := ∃ A c, v = .slice A m.length c ∧ m.length ≤ c ∧ Kd.C k48 w A m.length m
theorem IsM.below {w w' : World} {v : Value} {m : List S48} (h : IsM w v m) (hb : Below w.heap.size w w') : IsM w' v m := by
  obtain ⟨A, c, h1, h2, h3⟩ := h
  exact ⟨A, c, h1, h2, Kd.C_below h3 hb⟩
theorem IsM.len {w : World} {v : Value} {m : List S48} (h : IsM w v m) : m.length ≤ 9223372036854775807 := by
  obtain ⟨A, c, h1, h2, h3⟩ := h
  exact h3.2.1

theorem next_c {w : World} {v : Value} {m : List S48} (h : IsM w v m) (i b : Int) : Calls Try.prog 25 #[v, .int .i64 i, .int .u8 b] w fun e w' => e = .returned (.int .i64 (nextM m i b)) ∧ Below w.heap.size w w' := by
  obtain ⟨A, c, rfl, h2, h3⟩ := h
  obtain ⟨L, hL⟩ := short_of h3
  exact dfa_Next.calls (L + 2) A c m i b _ w h3 h2 (dnext_f m L hL i b _ (Nat.le_refl _))
theorem rnext_c {w : World} {v : Value} {m : List S48} (h : IsM w v m) (i b : Int) : Calls Try.prog 27 #[v, .int .i64 i, .int .u8 b] w fun e w' => e = .returned (.int .i64 (nextM m i b)) ∧ Below w.heap.size w w' := by
  obtain ⟨A, c, rfl, h2, h3⟩ := h
  obtain ⟨L, hL⟩ := short_of h3
  exact (homographref07_Next.calls (L + 2) A c m i b _ w h3 h2 (rnext_f m L hL i b _ (Nat.le_refl _))).mono fun e w' ⟨h1, h2⟩ => ⟨h1, h2.below⟩
theorem alike_c {w : World} {v : Value} {m : List S48} (h : IsM w v m) (a b : Int) : Calls Try.prog 26 #[v, .int .u8 a, .int .u8 b] w fun e w' => e = .returned (.bool (alikeM m a b)) ∧ Below w.heap.size w w' := by
  obtain ⟨A, c, rfl, h2, h3⟩ := h
  obtain ⟨L, hL⟩ := short_of h3
  exact (homographref10_alike.calls (L + 3 + m.length) A c m a b _ w h3 h2 (alike_f m L hL h3.2.1 a b _ (Nat.le_refl _))).mono fun e w' ⟨h1, h2⟩ => ⟨h1, h2.below⟩
theorem run_c {w : World} {v : Value} {m : List S48} (h : IsM w v m) (s : ByteArray) (hs : s.size ≤ 9223372036854775807) : Calls Try.prog 22 #[v, .string s] w fun e w' => e = .returned (.int .i64 (runM m s)) ∧ Below w.heap.size w w' := by
  obtain ⟨A, c, rfl, h2, h3⟩ := h
  obtain ⟨L, hL⟩ := short_of h3
  exact (homographref07_Run.calls (L + 5 + s.size) A c m s _ w h3 h2 (run_f m L hL s hs _ (Nat.le_refl _))).mono fun e w' ⟨h1, h2⟩ => ⟨h1, h2.below⟩
theorem check_c {w : World} {v : Value} {m : List S48} (h : IsM w v m) : Calls Try.prog 20 #[v] w fun e w' => ∃ r : Int, e = .returned (.int .i64 r) ∧ (r = 110 ∨ r = 0 ∧ GoodM m) ∧ Below w.heap.size w w' := by
  obtain ⟨A, c, rfl, h2, h3⟩ := h
  obtain ⟨L, hL⟩ := short_of h3
  obtain ⟨k, r, hf, hr⟩ := check_f m L hL
  exact (homographref07_Check.calls k A c m r w h3 h2 hf).mono fun e w' ⟨h1, h2⟩ => ⟨r, h1, hr, h2.below⟩
theorem ends_c {w : World} {v : Value} {m : List S48} (h : IsM w v m) (hm : m.length ≤ 4096) : Calls Try.prog 21 #[v] w fun e w' => ∃ v0, e = .returned v0 ∧ (Kd.int .u64).R 34 w' w.heap.size (fun _ => True) v0 (m.map S48.f0) ∧ Below w.heap.size w w' := by
  obtain ⟨A, c, rfl, h2, h3⟩ := h
  exact homographlaw10_ends.calls (m.length + 1) A c m _ w h3 h2 (ends_f m (by omega) _ (Nat.le_refl _))
theorem same_c {w : World} {v v' : Value} {m : List S48} (h : IsM w v m) (h' : IsM w v' m) : Calls Try.prog 15 #[v, v'] w fun e w' => e = .returned (.bool true) ∧ Below w.heap.size w w' := by
  obtain ⟨A, c, rfl, h2, h3⟩ := h
  obtain ⟨A', c', rfl, h2', h3'⟩ := h'
  obtain ⟨L, hL⟩ := short_of h3
  obtain ⟨k, hk⟩ := same_f m L hL h3.2.1
  exact (homographref07_Same.calls k A c m A' c' m true w h3 h2 h3' h2' hk).mono fun e w' ⟨h1, h2⟩ => ⟨h1, h2.below⟩

/-- The closure of classes.Of. -/
theorem of1_c {w : World} {v : Value} {m : List S48} (h : IsM w v m) (i b : Int) (bm bi : Nat) (hm : w.cell? ⟨bm, 0, none⟩ = some v) (hi : w.cell? ⟨bi, 0, none⟩ = some (.int .i64 i)) :
    Calls Try.prog 24 #[.int .u8 b, .pointer (some ⟨bm, 0, none⟩), .pointer (some ⟨bi, 0, none⟩)] w fun e w' => e = .returned (.int .i64 (nextM m i b)) ∧ Below w.heap.size w w' := by
  obtain ⟨A, c, rfl, h2, h3⟩ := h
  have H := Lib.hid (show IsM w _ m from ⟨A, c, rfl, h2, h3⟩)
  clear h2 h3
  go_enter Try.func24, Try.ntmps24
  go_wp2_with (go_at_call 25; refine (next_c H.out i b).mono ?_; rintro e w' ⟨rfl, hb⟩)
  go_ret
  exact ⟨rfl, hb⟩
end Go.Proofs.Ytbhdpamepmkaiaa
