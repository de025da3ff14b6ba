/- slices.AppendSeq, slices.Collect and dfa.Arcs at arcs: walks. Own text. -/
import Derived.Test.YtbhdpamepmkaiaaArcs
namespace Go.Proofs.Ytbhdpamepmkaiaa
open Go.RowKit Go.Shelf Go.Proofs.Ytbhdpamepmkaiaa.P Go.Proofs.YtbhdpamepmkaiaaW.PrintWords
attribute [local go_sem] Oper.semAt_some
set_option linter.unusedVariables false

theorem info50' : (Try.prog.info? 50).map (fun i => (i.zero, i.size, i.bytes)) = some (some (.agg #[.int .u8 0, .int .u8 0, .int .i64 0]), 3, 16) := by kernel_rfl
def cellsA (x : S50) : List Value := [.int .u8 x.f0, .int .u8 x.f1, .int .i64 x.f2]
def rowA (l : List S50) : List Value := l.flatMap cellsA
theorem rowA_snoc (l : List S50) (x : S50) : rowA (l ++ [x]) = rowA l ++ cellsA x := by simp [rowA]
theorem blk_ownFrom (B : Nat) (Bs : Nat) (t : TypeId) (cs : Array Value) (a0 a' : Nat → Act) (q : Act) : OwnFrom B (fun (_ : Unit) W => ∃ Bx, Bs < Bx ∧ Blk W Bx t cs ∧ q = a' Bx) := fun s W W' row hs hg hr => by
  obtain ⟨Bx, h1, h2, h3⟩ := hs
  refine ⟨Bx, h1, (hg.block Bx h2.lt (fun e => ?_)).trans h2, h3⟩
  obtain ⟨_, o, ho, hc⟩ := hr Bx e.symm
  have : W.heap[Bx]? = some (.cells cs t (0, 0)) := h2
  rw [this] at ho
  injection ho with ho
  subst ho
  simp [Obj.isCells] at hc
theorem cells_new3 (W : World) (a b c : Value) (t : TypeId) : ∀ j u, [a, b, c][j]? = some u → (W.alloc (.cells #[a, b, c] t)).cell? ((⟨W.heap.size, 0, none⟩ : Addr).add j) = some u := fun j u h => by
  rw [add_plain, (Blk.new W t #[a, b, c]).cell j, ← h]; simp
theorem each_stops (n : Nat) (hn : 1 ≤ n) (Bt : Nat) (tv : List Int) (htv : tv.length = 256) (w : World) (hBt : Bt < w.heap.size) (hb : Blk w Bt 51 (arI .i64 tv)) :
    SeqStopsK Fence.wide n Try.prog 34 #[.pointer (some ⟨Bt, 0, none⟩)] encA (Below w.heap.size) (fun ys => ys = rarcs tv 256) (fun _ => True) 256 w := fun l J Jx W hW hJ hJx hY h0 =>
  each1_in n hn l Bt w.heap.size hBt tv htv J Jx hY W hJ (hb.below hW hBt) h0

set_option maxRecDepth 100000 in
set_option maxHeartbeats 2000000 in
theorem appendSeq_in (n : Nat) (hn : 3 ≤ n) (Bt : Nat) (tv : List Int) (htv : tv.length = 256) (w : World) (hBt : Bt < w.heap.size) (hb : Blk w Bt 51 (arI .i64 tv)) :
    CallsIn Fence.wide n Try.prog 33 #[.slice none 0 0, .func (.func 34) #[] #[.pointer (some ⟨Bt, 0, none⟩)]] w fun e W' => ∃ v, e = .returned v ∧ W'.ownsRow w.heap.size 50 3 v (rarcs tv 256).length (rowA (rarcs tv 256)) ∧ Below w.heap.size w W' := by
  have h1 : 1 ≤ n := by omega
  obtain ⟨i0, hi, hz0, hz1, hz2⟩ := info_parts info50'
  refine callsIn_of_wp_marks Try.func33 rfl trivial ?_ rfl
  simp only [Try.ntmps33, List.size_toArray, List.length_cons, List.length_nil, Nat.reduceAdd, Nat.reduceSub, Array.replicate_succ, Array.replicate_zero, List.push_toArray, List.append_toArray, List.nil_append, List.cons_append]
  gi_wp2
  have bO := Boxed.new w 46 (.slice none 0 0)
  have hB0 : Below w.heap.size w (w.alloc (.cells #[.slice none 0 0] 46)) := (Below.refl _ w).alloc (Nat.le_refl _) _
  have hst := each_stops (n - 1) (by omega) Bt tv htv w hBt hb
  obtain ⟨W0, hW0⟩ : ∃ W0, w.alloc (.cells #[.slice none 0 0] 46) = W0 := ⟨_, rfl⟩
  have hsz : W0.heap.size = w.heap.size + 1 := by rw [← hW0]; simp
  rw [hW0] at bO hB0 ⊢
  clear hW0
  refine wpIn_rangeFunc_ownH rfl h1 (gf := 34) (lb := #[.pointer (some ⟨Bt, 0, none⟩)]) rfl trivial (enters_of Try.func34 (by kernel_rfl) rfl)
    hst belowK_t (belowK_b (by omega)) hB0 (fun _ => rfl)
    (fun pre W => (∃ v, Boxed W w.heap.size 46 v ∧ W.ownsRow w.heap.size 50 3 v pre.length (rowA pre) ∧ True) ∧ Below w.heap.size w W)
    (fun _ _ _ => False)
    (OwnFrom.and (Own.from (holdsRow_own w.heap.size w.heap.size 46 50 3 (fun pre : List S50 => pre.length) (fun pre => rowA pre) (fun _ _ => True)) _) (ownFrom_below (Nat.le_refl _) (by omega)))
    (fun _ _ _ _ _ hs _ _ => hs)
    ⟨⟨_, bO, World.ownsRow_nil _ _ _ _, trivial⟩, hB0⟩
    (fun x a' W => ∃ Bx, w.heap.size < Bx ∧ Blk W Bx 50 #[.int .u8 x.f0, .int .u8 x.f1, .int .i64 x.f2] ∧ a' = { tmps := #[.slice none 0 0, .func (.func 34) #[] #[.pointer (some ⟨Bt, 0, none⟩)], .pointer (some ⟨w.heap.size, 0, none⟩), undef, .slice none 0 0, .pointer (some ⟨Bx, 0, none⟩), .func (.func 34) #[] #[.pointer (some ⟨Bt, 0, none⟩)], .agg #[.int .u8 x.f0, .int .u8 x.f1, .int .i64 x.f2], undef, undef, undef, undef, undef], defers := [] })
    (fun x a' => blk_ownFrom _ w.heap.size 50 #[.int .u8 x.f0, .int .u8 x.f1, .int .i64 x.f2] (fun _ => a') (fun Bx => { tmps := #[.slice none 0 0, .func (.func 34) #[] #[.pointer (some ⟨Bt, 0, none⟩)], .pointer (some ⟨w.heap.size, 0, none⟩), undef, .slice none 0 0, .pointer (some ⟨Bx, 0, none⟩), .func (.func 34) #[] #[.pointer (some ⟨Bt, 0, none⟩)], .agg #[.int .u8 x.f0, .int .u8 x.f1, .int .i64 x.f2], undef, undef, undef, undef, undef], defers := [] }) a')
    ?assign ?body ?done ?stop
  case assign =>
    rintro l pre x W K ⟨⟨v, hv, hrow, _⟩, hB⟩ hK
    have hKH := Lib.hid hK
    clear hK
    simp only [encA]
    gi_wp2
    refine hKH.out _ _ ((KeepsOthers.alloc _ _).from _) ((Below.refl _ W).alloc hB.size _) ⟨⟨v, hv.alloc _, hrow.alloc _, trivial⟩, hB.alloc hB.size _⟩ ⟨W.heap.size, hv.lt, Blk.new W 50 _, rfl⟩
  case body =>
    rintro l pre x a' W hl ⟨r, hr⟩ ⟨⟨v, hv, hrow, _⟩, hB⟩ ⟨Bx, hBx, hX, rfl⟩ hlt
    have hc := hv.cell
    have hx0 := hX.cell 0
    have hx1 := hX.cell 1
    have hx2 := hX.cell 2
    gi_wp2_with (gi_at_builtin; refine wpListIn_append_own _ rfl _ _ 46 rfl w.heap.size 50 i0 _ 3 16 Try.underlying46 hi hz0 hz1 hz2 rfl (by decide) _ _ _ rfl (hrow.alloc _) ⟨W.heap.size, 0, none⟩ 1 1 [.int .u8 x.f0, .int .u8 x.f1, .int .i64 x.f2] rfl rfl (cells_new3 W _ _ _ 50) (by simp [Value.oneCell']) (by simp only [maxLen]; omega) (by omega) (by have := hB.size; simp; omega) ?_; intro v' w1 hown' hgrow _; obtain ⟨g', cap', rfl⟩ := ownsRow_succ hown'; obtain ⟨hv1, hv2, hr2, hk2, hb2⟩ := hv.appended (by decide) hrow hB.size (Nat.le_refl _) hown' hgrow; have hc1 := hv1.cell; have hf1 := hv1.frozen)
    exact ⟨hk2.from _, hb2, ⟨_, hv2, by rw [rowA_snoc]; simpa [cellsA] using hr2, trivial⟩, hB.trans hb2⟩
  case done =>
    rintro D ys W hD rfl ⟨⟨v, hv, hrow, _⟩, hB⟩ hK
    have hc := hv.cell
    gi_wp2
    refine ⟨by simp, .inl ⟨_, _, rfl, run_takeDeferred hK, ?_⟩⟩
    exact ⟨_, results_tmp rfl _ _ _, v, rfl, ownsRow_putObj hrow _ hK rfl, hB.trans (belowK_b (w := w) (Nat.le_refl _) W D _ _ (by omega) hK rfl rfl)⟩
  case stop =>
    rintro D c pre W _ _ h _
    exact h.elim
end Go.Proofs.Ytbhdpamepmkaiaa
