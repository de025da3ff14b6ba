/- dfacode.Get: its walk. Own text. -/
import Derived.Test.YtokdggmobhnnpaaHCut
namespace Go.Proofs.Ytokdggmobhnnpaa
open Go.RowKit Go.Proofs.Ytokdggmobhnnpaa.P Go.Proofs.Ytokdggmobhnnpaa.Enc Go.Proofs.YtokdggmobhnnpaaW.PrintWords Go.Proofs.YtokdggmobhnnpaaW.PrintLast Go.Proofs.YtokdggmobhnnpaaW.PrintMore
set_option linter.unusedVariables false
set_option linter.unusedSimpArgs false

/-! What the loops of Get keep. -/
theorem RdAt.move {w w1 : World} {g B0 c : Nat} {a : Addr} {p : Rd} (h : RdAt w g B0 a c p) (h1 : w1.heap[g]? = w.heap[g]?) (h2 : w1.heap[a.block]? = w.heap[a.block]?) : RdAt w1 g B0 a c p :=
  ⟨h1.trans h.blk, h.room, C_keep h.cells h2, h.low, h.bd, h.len⟩
def RdSome (w : World) (g B0 : Nat) (p : Rd) : Prop := ∃ a c, RdAt w g B0 a c p
theorem RdSome.move {w w1 : World} {g B0 : Nat} {p : Rd} (h : RdSome w g B0 p) (h1 : w1.heap[g]? = w.heap[g]?) (h2 : ∀ k, k < B0 → w1.heap[k]? = w.heap[k]?) : RdSome w1 g B0 p := by
  obtain ⟨a, c, h⟩ := h
  exact ⟨a, c, h.move h1 (h2 _ h.low)⟩
theorem RdSome.below {w w1 : World} {g B0 : Nat} {p : Rd} (h : RdSome w g B0 p) (hb : Below w.heap.size w w1) : RdSome w1 g B0 p := by
  obtain ⟨a, c, h⟩ := h
  exact ⟨a, c, h.below hb⟩
structure GetAt (w wr : World) (g : Nat) (p : Rd) (mv : Value) (ms : List S57) : Prop where
  rd : RdSome wr g w.heap.size p
  m : Kd.S k57 57 wr w.heap.size (fun k => k ≠ g) mv ms
  b : Below w.heap.size w wr
theorem GetAt.glt {w wr : World} {g : Nat} {p : Rd} {mv : Value} {ms : List S57} (h : GetAt w wr g p mv ms) : g < wr.heap.size := by
  obtain ⟨a, c, h⟩ := h.rd
  exact h.blk.lt
theorem below_grown {B : Nat} {w wr w1 : World} {g : Nat} (h : Below B w wr) (hB : B ≤ wr.heap.size) (hg : B ≤ g) (hgr : wr.grownBy w1 (some g)) : Below B w w1 := h.grown hgr hB (fun k hk => by injection hk with hk; omega)
theorem GetAt.grown {w wr w1 : World} {g : Nat} {p p1 : Rd} {mv : Value} {ms : List S57} (h : GetAt w wr g p mv ms) (hg : w.heap.size ≤ g) (hgr : wr.grownBy w1 (some g)) (hr : RdSome w1 g w.heap.size p1) : GetAt w w1 g p1 mv ms :=
  ⟨hr, Kd.S_step h.m (fun k hk hlt => hgr.block k hlt (fun e => hk (by injection e))), below_grown h.b (Nat.le_trans hg (Nat.le_of_lt h.glt)) hg hgr⟩
theorem GetAt.below {w wr w1 : World} {g : Nat} {p : Rd} {mv : Value} {ms : List S57} (h : GetAt w wr g p mv ms) (hg : w.heap.size ≤ g) (hb : Below wr.heap.size wr w1) : GetAt w w1 g p mv ms :=
  ⟨h.rd.below hb, Kd.S_below h.m hb, below_then h.b (Nat.le_trans hg (Nat.le_of_lt h.glt)) hb⟩
/-- The state has been put behind the others. -/
theorem GetAt.closed {w W w1 : World} {g h : Nat} {p : Rd} {mv v1 : Value} {ms ms1 : List S57} (hrd : RdSome W g w.heap.size p) (hm : Kd.S k57 57 W w.heap.size (fun k => k ≠ g ∧ k < h) mv ms) (hbW : Below w.heap.size w W) (hgl : g < W.heap.size) (hg : w.heap.size ≤ g)
    (ho : Kd.S k57 57 w1 w.heap.size (fun k => k ≠ g) v1 ms1) (hb : Below w.heap.size w w1) (hgr : W.grownBy w1 mv.ownBlock) : GetAt w w1 g p v1 ms1 := by
  have hmv : ∀ k, mv.ownBlock = some k → k ≠ g ∧ k < h := (Kd.S_R hm).1
  exact ⟨hrd.move (hgr.block g hgl (fun e => (hmv g e.symm).1 rfl)) (fun k hk => (hb.block k hk).trans (hbW.block k hk).symm), ho, hb⟩
theorem rbyte_bd (p : Rd) (hb : Bts p.rest) : (0 ≤ (rbyte p).1 ∧ (rbyte p).1 ≤ 255) := by
  unfold rbyte
  cases hr : p.rest with
  | nil => simp
  | cons c r => exact hb c (by rw [hr]; simp)
theorem rcount_le (p : Rd) (l : Nat) : (rcount p l).1 ≤ l := by
  unfold rcount
  split
  · exact Nat.zero_le _
  · omega
def ArB (arcs : List S59) : Prop := ∀ a ∈ arcs, (0 ≤ a.f0 ∧ a.f0 ≤ 255) ∧ (0 ≤ a.f1 ∧ a.f1 ≤ 255)
/-- In a state: its block h, the row of its arcs. -/
structure ArcAt (w wr : World) (g h : Nat) (p : Rd) (mv : Value) (ms : List S57) (acc : Int) (av : Value) (arcs : List S59) : Prop where
  rd : RdSome wr g w.heap.size p
  m : Kd.S k57 57 wr w.heap.size (fun k => k ≠ g ∧ k < h) mv ms
  s : Blk wr h 57 #[.int .u64 acc, av]
  r : Kd.R k59 59 wr w.heap.size (fun k => h < k) av arcs
  b : Below w.heap.size w wr
theorem ArcAt.grown {w wr w1 : World} {g h : Nat} {p p1 : Rd} {mv av : Value} {ms : List S57} {acc : Int} {arcs : List S59} (hA : ArcAt w wr g h p mv ms acc av arcs) (hg : w.heap.size ≤ g) (hgh : g < h) (hgr : wr.grownBy w1 (some g)) (hr : RdSome w1 g w.heap.size p1) : ArcAt w w1 g h p1 mv ms acc av arcs :=
  ⟨hr, Kd.S_step hA.m (fun k hk hlt => hgr.block k hlt (fun e => hk.1 (by injection e))), (hgr.block h hA.s.lt (fun e => by injection e with e; omega)).trans hA.s, Kd.R_step hA.r (fun k hk hlt => hgr.block k hlt (fun e => by injection e with e; omega)), below_grown hA.b (by have := hA.s.lt; omega) hg hgr⟩
theorem ArcAt.below {w wr w1 : World} {g h : Nat} {p : Rd} {mv av : Value} {ms : List S57} {acc : Int} {arcs : List S59} (hA : ArcAt w wr g h p mv ms acc av arcs) (hg : w.heap.size ≤ g) (hgh : g < h) (hb : Below wr.heap.size wr w1) : ArcAt w w1 g h p mv ms acc av arcs :=
  ⟨hA.rd.below hb, Kd.S_below hA.m hb, hA.s.below hb hA.s.lt, Kd.R_below hA.r hb, below_then hA.b (by have := hA.s.lt; omega) hb⟩
/-- A state has been begun. -/
theorem GetAt.begin {w wr : World} {g : Nat} {p : Rd} {mv : Value} {ms : List S57} (h : GetAt w wr g p mv ms) (hg : w.heap.size ≤ g) (acc : Int) :
    ArcAt w (wr.alloc (.cells #[.int .u64 acc, .slice none 0 0] 57)) g wr.heap.size p mv ms acc (.slice none 0 0) [] := by
  have hb := below_alloc (Below.refl wr.heap.size wr) (.cells #[.int .u64 acc, .slice none 0 0] 57)
  have h1 := h.below hg hb
  refine ⟨h1.rd, ?_, Blk.new wr 57 _, Kd.R_nil _ _ _ _ _, h1.b⟩
  exact Kd.S_mono (Kd.S_below (Kd.S_bound h.m) hb) (fun k hk => ⟨hk.1, hk.2.2.1⟩)
theorem ArcAt.keep {w wr w1 : World} {g h : Nat} {p p1 : Rd} {mv av : Value} {ms : List S57} {acc : Int} {arcs : List S59} (hA : ArcAt w wr g h p mv ms acc av arcs) (hgh : g < h) (hk : ∀ k, k < wr.heap.size → k ≠ g → w1.heap[k]? = wr.heap[k]?) (hrd : RdSome w1 g w.heap.size p1) (hb : Below w.heap.size w w1) : ArcAt w w1 g h p1 mv ms acc av arcs :=
  ⟨hrd, Kd.S_step hA.m (fun k hk1 hlt => hk k hlt hk1.1), (hk h hA.s.lt (by omega)).trans hA.s, Kd.R_step hA.r (fun k hk1 hlt => hk k hlt (by omega)), hb⟩
theorem ArcAt.blk_grown {w wr w1 : World} {g h : Nat} {p : Rd} {mv av : Value} {ms : List S57} {acc : Int} {arcs : List S59} (hA : ArcAt w wr g h p mv ms acc av arcs) (hgr : wr.grownBy w1 av.ownBlock) : Blk w1 h 57 #[.int .u64 acc, av] :=
  (hgr.block h hA.s.lt (fun e => by have := hA.r.1 _ e.symm; omega)).trans hA.s
theorem ByM_snoc {ms : List S57} {acc : Int} {arcs : List S59} (h : ByM ms) (hl : arcs.length ≤ 1000000000) (ha : ArB arcs) : ByM (ms ++ [⟨acc, arcs⟩]) := by
  intro s hs
  rcases List.mem_append.1 hs with hs | hs
  · exact h s hs
  · simp only [List.mem_singleton] at hs
    subst hs
    exact ⟨by simp only; omega, ha⟩
theorem ArB_snoc {arcs : List S59} {lo hi z : Int} (h : ArB arcs) (h1 : 0 ≤ lo ∧ lo ≤ 255) (h2 : 0 ≤ hi ∧ hi ≤ 255) : ArB (arcs ++ [⟨lo, hi, z⟩]) := by
  intro a ha
  rcases List.mem_append.1 ha with ha | ha
  · exact h a ha
  · simp only [List.mem_singleton] at ha
    subst ha
    exact ⟨h1, h2⟩
/-- An arc has been put behind the others. -/
theorem ArcAt.put {w wr w1 : World} {g h : Nat} {p : Rd} {mv av v1 : Value} {ms : List S57} {acc : Int} {arcs arcs1 : List S59} (hA : ArcAt w wr g h p mv ms acc av arcs) (hg : w.heap.size ≤ g) (hgh : g < h)
    (ho : Kd.R k59 59 w1 w.heap.size (fun k => h < k) v1 arcs1) (hb : Below w.heap.size w w1) (hgr : wr.grownBy w1 av.ownBlock) : ArcAt w (w1.setCell ⟨h, 1, none⟩ v1) g h p mv ms acc v1 arcs1 := by
  have hav : ∀ k, av.ownBlock = some k → h < k := hA.r.1
  have hs1 : Blk w1 h 57 #[.int .u64 acc, av] := (hgr.block h hA.s.lt (fun e => by have := hav _ e.symm; omega)).trans hA.s
  have hgl : g < wr.heap.size := by have := hA.s.lt; omega
  have hfar : ∀ k, k ≠ h → (w1.setCell ⟨h, 1, none⟩ v1).heap[k]? = w1.heap[k]? := fun k hk => Below.heap_setCell w1 ⟨h, 1, none⟩ v1 k hk
  refine ⟨hA.rd.move ?_ (fun k hk => ?_), ?_, hs1.set_ 1 v1, ?_, hb.setCell (by show w.heap.size ≤ h; omega) v1⟩
  · exact (hfar g (by omega)).trans (hgr.block g hgl (fun e => by have := hav _ e.symm; omega))
  · exact (hfar k (by omega)).trans (hgr.block k (by omega) (fun e => by have := hav _ e.symm; omega))
  · exact Kd.S_step hA.m (fun k hk hlt => (hfar k (by omega)).trans (hgr.block k hlt (fun e => by have := hav _ e.symm; omega)))
  · exact Kd.R_step ho (fun k hk hlt => hfar k (by omega))
abbrev markObj' : Obj := .cells #[.int .u8 68, .int .u8 70, .int .u8 65, .int .u8 49] 5 (4, 5)
theorem mark_C' (w : World) : (Kd.int .u8).C (w.alloc markObj') (some ⟨w.heap.size, 0, none⟩) 4 [68, 70, 65, 49] := by
  refine Kd.C_of_reads (d := (0 : Int)) ⟨rfl, by decide, fun _ => ⟨_, rfl, fun j hj => ?_⟩⟩
  have hb : (w.alloc markObj').heap[w.heap.size]? = some markObj' := heap_alloc_new w _
  rw [add_plain, cell_of_row _ w.heap.size j _ 5 (4, 5) hb]
  match j, hj with
  | 0, _ => rfl
  | 1, _ => rfl
  | 2, _ => rfl
  | 3, _ => rfl
theorem mark_bts : Bts [68, 70, 65, 49] := by intro x hx; simp at hx; omega
def GetPost (w : World) (b : List Int) (e : Ending) (w' : World) : Prop := ∃ v0 : Value, e = .returned (.tuple #[v0, .int .i64 (getL b).2]) ∧ Kd.S k57 57 w' w.heap.size (fun _ => True) v0 (getL b).1 ∧ Below w.heap.size w w'
theorem get_no {b : List Int} (h : ¬ headOk b) : getL b = ([], 110) := by unfold getL; rw [if_neg h]

set_option maxRecDepth 20000 in
set_option maxHeartbeats 1000000 in
/-- No prefix. -/
theorem get_c1 (A : Option Addr) (c : Nat) (b : List Int) (w : World) (hR : (Kd.int .u8).C w A b.length b) (hc : b.length ≤ c) (hb : Bts b) (hl : b.length ≤ 1000000000) (hp : ¬ b.take 4 = [68, 70, 65, 49]) :
    Calls Try.prog 18 #[.slice A b.length c] w (GetPost w b) := by
  have hg := Lib.hid (get_no (b := b) (fun h => hp h.1))
  have hcv := fun (w : World) (C : Array Value) (n c : Nat) => Lib.run_convert_bytes_const (P := Try.prog) w 25 5 C n c Try.underlying25 Try.underlying5
  have hB := below_alloc (Below.refl w.heap.size w) markObj'
  have hcut := Lib.hid (cut_no (c2 := 4) (Kd.C_below hR hB) hc (mark_C' w) hb mark_bts hl hp)
  have hBH := Lib.hid hB
  unfold markObj' at hcut hBH
  clear hR hb hp hB
  go_enter Try.func18, Try.ntmps18
  go_wp2_with (go_at_call 27; refine hcut.out.mono ?_; rintro e w1 ⟨rfl, hw1⟩; have hwH := Lib.hid hw1; clear hw1)
  refine start_ (n := 20) (S := (fun w' => True)) (ds := []) #[false, false, false, false, false, false, false, false, false, false, false, false, false, false, false, false, false, false, false, false] (by kernel_rfl) rfl rfl ?_ (fun hHeld => ?_)
  · trivial
  have hbd := below_drew1 (Below.refl w1.heap.size w1)
  generalize w1.drew = wd at *
  refine pure_ (i := 0) (N := (some 25)) (v := ?_) (a' := ?_) #[true, false, false, false, false, false, false, false, false, false, false, false, false, false, false, false, false, false, false, false] rfl rfl (by kernel_rfl) (fun _ _ _ h => h) (Or.inl ⟨by rfl, ?_⟩) ?_ ?_
  rotate_left
  · intro w'
    go_simp
    with_reducible rfl
  rotate_left
  · simp only [Act.put, List.setIfInBounds_toArray, List.set_cons_zero, List.set_cons_succ, i64_w, i32_w]
    rfl
  refine pure_ (i := 1) (N := (some 26)) (v := ?_) (a' := ?_) #[true, true, false, false, false, false, false, false, false, false, false, false, false, false, false, false, false, false, false, false] rfl rfl (by kernel_rfl) (fun _ _ _ h => h) (Or.inl ⟨by rfl, ?_⟩) ?_ ?_
  rotate_left
  · intro w'
    go_simp
    with_reducible rfl
  rotate_left
  · simp only [Act.put, List.setIfInBounds_toArray, List.set_cons_zero, List.set_cons_succ, i64_w, i32_w]
    rfl
  refine pure_ (i := 2) (N := (some 27)) (v := ?_) (a' := ?_) #[true, true, true, false, false, false, false, false, false, false, false, false, false, false, false, false, false, false, false, false] rfl rfl (by kernel_rfl) (fun _ _ _ h => h) (Or.inl ⟨by rfl, ?_⟩) ?_ ?_
  rotate_left
  · intro w'
    go_simp
    with_reducible rfl
  rotate_left
  · simp only [Act.put, List.setIfInBounds_toArray, List.set_cons_zero, List.set_cons_succ, i64_w, i32_w]
    rfl
  refine pure_ (i := 3) (N := (some 28)) (v := undef) (a' := ?_) #[true, true, true, true, false, false, false, false, false, false, false, false, false, false, false, false, false, false, false, false] rfl rfl (by kernel_rfl) (fun _ _ _ h => h) (Or.inr ⟨by rfl, rfl⟩) ?_ ?_
  rotate_left
  · simp only [Act.put, List.setIfInBounds_toArray, List.set_cons_zero, List.set_cons_succ, i64_w, i32_w]
    rfl
  refine pure_ (i := 4) (N := (some 29)) (v := undef) (a' := ?_) #[true, true, true, true, true, false, false, false, false, false, false, false, false, false, false, false, false, false, false, false] rfl rfl (by kernel_rfl) (fun _ _ _ h => h) (Or.inr ⟨by rfl, rfl⟩) ?_ ?_
  rotate_left
  · simp only [Act.put, List.setIfInBounds_toArray, List.set_cons_zero, List.set_cons_succ, i64_w, i32_w]
    rfl
  refine pure_ (i := 5) (N := (some 30)) (v := ?_) (a' := ?_) #[true, true, true, true, true, true, false, false, false, false, false, false, false, false, false, false, false, false, false, false] rfl rfl (by kernel_rfl) (fun _ _ _ h => h) (Or.inl ⟨by rfl, ?_⟩) ?_ ?_
  rotate_left
  · intro w'
    go_simp
    with_reducible rfl
  rotate_left
  · simp only [Act.put, List.setIfInBounds_toArray, List.set_cons_zero, List.set_cons_succ, i64_w, i32_w]
    rfl
  refine pure_ (i := 6) (N := (some 31)) (v := ?_) (a' := ?_) #[true, true, true, true, true, true, true, false, false, false, false, false, false, false, false, false, false, false, false, false] rfl rfl (by kernel_rfl) (fun _ _ _ h => h) (Or.inl ⟨by rfl, ?_⟩) ?_ ?_
  rotate_left
  · intro w'
    go_simp
    with_reducible rfl
  rotate_left
  · simp only [Act.put, List.setIfInBounds_toArray, List.set_cons_zero, List.set_cons_succ, i64_w, i32_w]
    rfl
  refine pure_ (i := 7) (N := (some 32)) (v := undef) (a' := ?_) #[true, true, true, true, true, true, true, true, false, false, false, false, false, false, false, false, false, false, false, false] rfl rfl (by kernel_rfl) (fun _ _ _ h => h) (Or.inr ⟨by rfl, rfl⟩) ?_ ?_
  rotate_left
  · simp only [Act.put, List.setIfInBounds_toArray, List.set_cons_zero, List.set_cons_succ, i64_w, i32_w]
    rfl
  refine pure_ (i := 8) (N := (some 33)) (v := undef) (a' := ?_) #[true, true, true, true, true, true, true, true, true, false, false, false, false, false, false, false, false, false, false, false] rfl rfl (by kernel_rfl) (fun _ _ _ h => h) (Or.inr ⟨by rfl, rfl⟩) ?_ ?_
  rotate_left
  · simp only [Act.put, List.setIfInBounds_toArray, List.set_cons_zero, List.set_cons_succ, i64_w, i32_w]
    rfl
  refine pure_ (i := 9) (N := (some 34)) (v := undef) (a' := ?_) #[true, true, true, true, true, true, true, true, true, true, false, false, false, false, false, false, false, false, false, false] rfl rfl (by kernel_rfl) (fun _ _ _ h => h) (Or.inr ⟨by rfl, rfl⟩) ?_ ?_
  rotate_left
  · simp only [Act.put, List.setIfInBounds_toArray, List.set_cons_zero, List.set_cons_succ, i64_w, i32_w]
    rfl
  refine pure_ (i := 10) (N := (some 35)) (v := undef) (a' := ?_) #[true, true, true, true, true, true, true, true, true, true, true, false, false, false, false, false, false, false, false, false] rfl rfl (by kernel_rfl) (fun _ _ _ h => h) (Or.inr ⟨by rfl, rfl⟩) ?_ ?_
  rotate_left
  · simp only [Act.put, List.setIfInBounds_toArray, List.set_cons_zero, List.set_cons_succ, i64_w, i32_w]
    rfl
  refine pure_ (i := 11) (N := (some 36)) (v := undef) (a' := ?_) #[true, true, true, true, true, true, true, true, true, true, true, true, false, false, false, false, false, false, false, false] rfl rfl (by kernel_rfl) (fun _ _ _ h => h) (Or.inr ⟨by rfl, rfl⟩) ?_ ?_
  rotate_left
  · simp only [Act.put, List.setIfInBounds_toArray, List.set_cons_zero, List.set_cons_succ, i64_w, i32_w]
    rfl
  refine pure_ (i := 12) (N := (some 37)) (v := undef) (a' := ?_) #[true, true, true, true, true, true, true, true, true, true, true, true, true, false, false, false, false, false, false, false] rfl rfl (by kernel_rfl) (fun _ _ _ h => h) (Or.inr ⟨by rfl, rfl⟩) ?_ ?_
  rotate_left
  · simp only [Act.put, List.setIfInBounds_toArray, List.set_cons_zero, List.set_cons_succ, i64_w, i32_w]
    rfl
  refine pure_ (i := 13) (N := (some 38)) (v := undef) (a' := ?_) #[true, true, true, true, true, true, true, true, true, true, true, true, true, true, false, false, false, false, false, false] rfl rfl (by kernel_rfl) (fun _ _ _ h => h) (Or.inr ⟨by rfl, rfl⟩) ?_ ?_
  rotate_left
  · simp only [Act.put, List.setIfInBounds_toArray, List.set_cons_zero, List.set_cons_succ, i64_w, i32_w]
    rfl
  refine pure_ (i := 14) (N := (some 39)) (v := undef) (a' := ?_) #[true, true, true, true, true, true, true, true, true, true, true, true, true, true, true, false, false, false, false, false] rfl rfl (by kernel_rfl) (fun _ _ _ h => h) (Or.inr ⟨by rfl, rfl⟩) ?_ ?_
  rotate_left
  · simp only [Act.put, List.setIfInBounds_toArray, List.set_cons_zero, List.set_cons_succ, i64_w, i32_w]
    rfl
  refine pure_ (i := 15) (N := (some 40)) (v := undef) (a' := ?_) #[true, true, true, true, true, true, true, true, true, true, true, true, true, true, true, true, false, false, false, false] rfl rfl (by kernel_rfl) (fun _ _ _ h => h) (Or.inr ⟨by rfl, rfl⟩) ?_ ?_
  rotate_left
  · simp only [Act.put, List.setIfInBounds_toArray, List.set_cons_zero, List.set_cons_succ, i64_w, i32_w]
    rfl
  refine pure_ (i := 16) (N := (some 41)) (v := undef) (a' := ?_) #[true, true, true, true, true, true, true, true, true, true, true, true, true, true, true, true, true, false, false, false] rfl rfl (by kernel_rfl) (fun _ _ _ h => h) (Or.inr ⟨by rfl, rfl⟩) ?_ ?_
  rotate_left
  · simp only [Act.put, List.setIfInBounds_toArray, List.set_cons_zero, List.set_cons_succ, i64_w, i32_w]
    rfl
  refine pure_ (i := 17) (N := (some 42)) (v := undef) (a' := ?_) #[true, true, true, true, true, true, true, true, true, true, true, true, true, true, true, true, true, true, false, false] rfl rfl (by kernel_rfl) (fun _ _ _ h => h) (Or.inr ⟨by rfl, rfl⟩) ?_ ?_
  rotate_left
  · simp only [Act.put, List.setIfInBounds_toArray, List.set_cons_zero, List.set_cons_succ, i64_w, i32_w]
    rfl
  refine pure_ (i := 18) (N := (some 43)) (v := undef) (a' := ?_) #[true, true, true, true, true, true, true, true, true, true, true, true, true, true, true, true, true, true, true, false] rfl rfl (by kernel_rfl) (fun _ _ _ h => h) (Or.inr ⟨by rfl, rfl⟩) ?_ ?_
  rotate_left
  · simp only [Act.put, List.setIfInBounds_toArray, List.set_cons_zero, List.set_cons_succ, i64_w, i32_w]
    rfl
  refine pure_ (i := 19) (N := (some 44)) (v := ?_) (a' := ?_) #[true, true, true, true, true, true, true, true, true, true, true, true, true, true, true, true, true, true, true, true] rfl rfl (by kernel_rfl) (fun _ _ _ h => h) (Or.inl ⟨by rfl, ?_⟩) ?_ ?_
  rotate_left
  · intro w'
    go_simp
    with_reducible rfl
  rotate_left
  · simp only [Act.put, List.setIfInBounds_toArray, List.set_cons_zero, List.set_cons_succ, i64_w, i32_w]
    rfl
  refine done_ (by kernel_rfl) ?_
  go_wp2
  go_ret2
  have e := hwH.out
  subst e
  exact ⟨.slice none 0 0, by rw [hg.out]; rfl, by rw [hg.out]; exact Kd.S_nil _ _ _ _ _, below_then hBH.out hBH.out.size hbd⟩
set_option maxRecDepth 20000 in
set_option maxHeartbeats 1000000 in
/-- Too short. -/
theorem get_c2 (A : Option Addr) (c : Nat) (b : List Int) (w : World) (hR : (Kd.int .u8).C w A b.length b) (hc : b.length ≤ c) (hb : Bts b) (hl : b.length ≤ 1000000000) (hp : b.take 4 = [68, 70, 65, 49]) (h8 : b.length < 8) :
    Calls Try.prog 18 #[.slice A b.length c] w (GetPost w b) := by
  have hg := Lib.hid (get_no (b := b) (fun h => by have := h.2.1; omega))
  have hcv := fun (w : World) (C : Array Value) (n c : Nat) => Lib.run_convert_bytes_const (P := Try.prog) w 25 5 C n c Try.underlying25 Try.underlying5
  have hB := below_alloc (Below.refl w.heap.size w) markObj'
  have h4 : 4 ≤ b.length := by
    have := congrArg List.length hp
    rw [List.length_take] at this
    simp at this; omega
  obtain ⟨ad, rfl, _⟩ := Kd.at_int hR 0 (by omega) (by omega)
  have hcut := Lib.hid (cut_yes (c2 := 4) (Kd.C_below hR hB) hc (mark_C' w) hb mark_bts hl hp)
  have hBH := Lib.hid hB
  unfold markObj' at hcut hBH
  obtain ⟨n, hn⟩ : ∃ n, b.length = n + 4 := ⟨b.length - 4, by omega⟩
  rw [hn] at hcut hc hl h8
  rw [hn]
  simp only [Nat.add_sub_cancel] at hcut
  have hlt : decide ((n : Int) - 4 < 0) = true := decide_eq_true (by omega)
  clear hR hb hp hB hn h4
  go_enter Try.func18, Try.ntmps18
  go_wp2_with (go_at_call 27; refine hcut.out.mono ?_; rintro e w1 ⟨a', rfl, hca, hw1⟩; have hwH := Lib.hid hw1; clear hw1 hca)
  refine start_ (n := 20) (S := (fun w' => True)) (ds := []) #[false, false, false, false, false, false, false, false, false, false, false, false, false, false, false, false, false, false, false, false] (by kernel_rfl) rfl rfl ?_ (fun hHeld => ?_)
  · trivial
  have hbd := below_drew1 (Below.refl w1.heap.size w1)
  generalize w1.drew = wd at *
  refine pure_ (i := 0) (N := (some 25)) (v := ?_) (a' := ?_) #[true, false, false, false, false, false, false, false, false, false, false, false, false, false, false, false, false, false, false, false] rfl rfl (by kernel_rfl) (fun _ _ _ h => h) (Or.inl ⟨by rfl, ?_⟩) ?_ ?_
  rotate_left
  · intro w'
    go_simp
    with_reducible rfl
  rotate_left
  · simp only [Act.put, List.setIfInBounds_toArray, List.set_cons_zero, List.set_cons_succ, i64_w, i32_w]
    rfl
  refine pure_ (i := 1) (N := (some 26)) (v := ?_) (a' := ?_) #[true, true, false, false, false, false, false, false, false, false, false, false, false, false, false, false, false, false, false, false] rfl rfl (by kernel_rfl) (fun _ _ _ h => h) (Or.inl ⟨by rfl, ?_⟩) ?_ ?_
  rotate_left
  · intro w'
    go_simp
    with_reducible rfl
  rotate_left
  · simp only [Act.put, List.setIfInBounds_toArray, List.set_cons_zero, List.set_cons_succ, i64_w, i32_w]
    rfl
  refine pure_ (i := 2) (N := (some 27)) (v := ?_) (a' := ?_) #[true, true, true, false, false, false, false, false, false, false, false, false, false, false, false, false, false, false, false, false] rfl rfl (by kernel_rfl) (fun _ _ _ h => h) (Or.inl ⟨by rfl, ?_⟩) ?_ ?_
  rotate_left
  · intro w'
    go_simp
    with_reducible rfl
  rotate_left
  · simp only [Act.put, List.setIfInBounds_toArray, List.set_cons_zero, List.set_cons_succ, i64_w, i32_w]
    rfl
  refine pure_ (i := 3) (N := (some 28)) (v := ?_) (a' := ?_) #[true, true, true, true, false, false, false, false, false, false, false, false, false, false, false, false, false, false, false, false] rfl rfl (by kernel_rfl) (fun _ _ _ h => h) (Or.inl ⟨by rfl, ?_⟩) ?_ ?_
  rotate_left
  · intro w'
    go_simp
    with_reducible rfl
  rotate_left
  · simp only [Act.put, List.setIfInBounds_toArray, List.set_cons_zero, List.set_cons_succ, i64_w, i32_w]
    rfl
  refine pure_ (i := 4) (N := (some 29)) (v := ?_) (a' := ?_) #[true, true, true, true, true, false, false, false, false, false, false, false, false, false, false, false, false, false, false, false] rfl rfl (by kernel_rfl) (fun _ _ _ h => h) (Or.inl ⟨by rfl, ?_⟩) ?_ ?_
  rotate_left
  · intro w'
    go_simp
    with_reducible rfl
  rotate_left
  · simp only [Act.put, List.setIfInBounds_toArray, List.set_cons_zero, List.set_cons_succ, i64_w, i32_w]
    rfl
  refine pure_ (i := 5) (N := (some 30)) (v := ?_) (a' := ?_) #[true, true, true, true, true, true, false, false, false, false, false, false, false, false, false, false, false, false, false, false] rfl rfl (by kernel_rfl) (fun _ _ _ h => h) (Or.inl ⟨by rfl, ?_⟩) ?_ ?_
  rotate_left
  · intro w'
    go_simp
    with_reducible rfl
  rotate_left
  · simp only [Act.put, List.setIfInBounds_toArray, List.set_cons_zero, List.set_cons_succ, i64_w, i32_w]
    rfl
  refine pure_ (i := 6) (N := (some 31)) (v := ?_) (a' := ?_) #[true, true, true, true, true, true, true, false, false, false, false, false, false, false, false, false, false, false, false, false] rfl rfl (by kernel_rfl) (fun _ _ _ h => h) (Or.inl ⟨by rfl, ?_⟩) ?_ ?_
  rotate_left
  · intro w'
    go_simp
    with_reducible rfl
  rotate_left
  · simp only [Act.put, List.setIfInBounds_toArray, List.set_cons_zero, List.set_cons_succ, i64_w, i32_w]
    rfl
  refine pure_ (i := 7) (N := (some 32)) (v := undef) (a' := ?_) #[true, true, true, true, true, true, true, true, false, false, false, false, false, false, false, false, false, false, false, false] rfl rfl (by kernel_rfl) (fun _ _ _ h => h) (Or.inr ⟨by rfl, rfl⟩) ?_ ?_
  rotate_left
  · simp only [Act.put, List.setIfInBounds_toArray, List.set_cons_zero, List.set_cons_succ, i64_w, i32_w]
    rfl
  refine pure_ (i := 8) (N := (some 33)) (v := undef) (a' := ?_) #[true, true, true, true, true, true, true, true, true, false, false, false, false, false, false, false, false, false, false, false] rfl rfl (by kernel_rfl) (fun _ _ _ h => h) (Or.inr ⟨by rfl, rfl⟩) ?_ ?_
  rotate_left
  · simp only [Act.put, List.setIfInBounds_toArray, List.set_cons_zero, List.set_cons_succ, i64_w, i32_w]
    rfl
  refine pure_ (i := 9) (N := (some 34)) (v := undef) (a' := ?_) #[true, true, true, true, true, true, true, true, true, true, false, false, false, false, false, false, false, false, false, false] rfl rfl (by kernel_rfl) (fun _ _ _ h => h) (Or.inr ⟨by rfl, rfl⟩) ?_ ?_
  rotate_left
  · simp only [Act.put, List.setIfInBounds_toArray, List.set_cons_zero, List.set_cons_succ, i64_w, i32_w]
    rfl
  refine pure_ (i := 10) (N := (some 35)) (v := undef) (a' := ?_) #[true, true, true, true, true, true, true, true, true, true, true, false, false, false, false, false, false, false, false, false] rfl rfl (by kernel_rfl) (fun _ _ _ h => h) (Or.inr ⟨by rfl, rfl⟩) ?_ ?_
  rotate_left
  · simp only [Act.put, List.setIfInBounds_toArray, List.set_cons_zero, List.set_cons_succ, i64_w, i32_w]
    rfl
  refine pure_ (i := 11) (N := (some 36)) (v := undef) (a' := ?_) #[true, true, true, true, true, true, true, true, true, true, true, true, false, false, false, false, false, false, false, false] rfl rfl (by kernel_rfl) (fun _ _ _ h => h) (Or.inr ⟨by rfl, rfl⟩) ?_ ?_
  rotate_left
  · simp only [Act.put, List.setIfInBounds_toArray, List.set_cons_zero, List.set_cons_succ, i64_w, i32_w]
    rfl
  refine pure_ (i := 12) (N := (some 37)) (v := undef) (a' := ?_) #[true, true, true, true, true, true, true, true, true, true, true, true, true, false, false, false, false, false, false, false] rfl rfl (by kernel_rfl) (fun _ _ _ h => h) (Or.inr ⟨by rfl, rfl⟩) ?_ ?_
  rotate_left
  · simp only [Act.put, List.setIfInBounds_toArray, List.set_cons_zero, List.set_cons_succ, i64_w, i32_w]
    rfl
  refine pure_ (i := 13) (N := (some 38)) (v := undef) (a' := ?_) #[true, true, true, true, true, true, true, true, true, true, true, true, true, true, false, false, false, false, false, false] rfl rfl (by kernel_rfl) (fun _ _ _ h => h) (Or.inr ⟨by rfl, rfl⟩) ?_ ?_
  rotate_left
  · simp only [Act.put, List.setIfInBounds_toArray, List.set_cons_zero, List.set_cons_succ, i64_w, i32_w]
    rfl
  refine pure_ (i := 14) (N := (some 39)) (v := undef) (a' := ?_) #[true, true, true, true, true, true, true, true, true, true, true, true, true, true, true, false, false, false, false, false] rfl rfl (by kernel_rfl) (fun _ _ _ h => h) (Or.inr ⟨by rfl, rfl⟩) ?_ ?_
  rotate_left
  · simp only [Act.put, List.setIfInBounds_toArray, List.set_cons_zero, List.set_cons_succ, i64_w, i32_w]
    rfl
  refine pure_ (i := 15) (N := (some 40)) (v := undef) (a' := ?_) #[true, true, true, true, true, true, true, true, true, true, true, true, true, true, true, true, false, false, false, false] rfl rfl (by kernel_rfl) (fun _ _ _ h => h) (Or.inr ⟨by rfl, rfl⟩) ?_ ?_
  rotate_left
  · simp only [Act.put, List.setIfInBounds_toArray, List.set_cons_zero, List.set_cons_succ, i64_w, i32_w]
    rfl
  refine pure_ (i := 16) (N := (some 41)) (v := undef) (a' := ?_) #[true, true, true, true, true, true, true, true, true, true, true, true, true, true, true, true, true, false, false, false] rfl rfl (by kernel_rfl) (fun _ _ _ h => h) (Or.inr ⟨by rfl, rfl⟩) ?_ ?_
  rotate_left
  · simp only [Act.put, List.setIfInBounds_toArray, List.set_cons_zero, List.set_cons_succ, i64_w, i32_w]
    rfl
  refine pure_ (i := 17) (N := (some 42)) (v := undef) (a' := ?_) #[true, true, true, true, true, true, true, true, true, true, true, true, true, true, true, true, true, true, false, false] rfl rfl (by kernel_rfl) (fun _ _ _ h => h) (Or.inr ⟨by rfl, rfl⟩) ?_ ?_
  rotate_left
  · simp only [Act.put, List.setIfInBounds_toArray, List.set_cons_zero, List.set_cons_succ, i64_w, i32_w]
    rfl
  refine pure_ (i := 18) (N := (some 43)) (v := undef) (a' := ?_) #[true, true, true, true, true, true, true, true, true, true, true, true, true, true, true, true, true, true, true, false] rfl rfl (by kernel_rfl) (fun _ _ _ h => h) (Or.inr ⟨by rfl, rfl⟩) ?_ ?_
  rotate_left
  · simp only [Act.put, List.setIfInBounds_toArray, List.set_cons_zero, List.set_cons_succ, i64_w, i32_w]
    rfl
  refine pure_ (i := 19) (N := (some 44)) (v := ?_) (a' := ?_) #[true, true, true, true, true, true, true, true, true, true, true, true, true, true, true, true, true, true, true, true] rfl rfl (by kernel_rfl) (fun _ _ _ h => h) (Or.inl ⟨by rfl, ?_⟩) ?_ ?_
  rotate_left
  · intro w'
    go_simp
    with_reducible rfl
  rotate_left
  · simp only [Act.put, List.setIfInBounds_toArray, List.set_cons_zero, List.set_cons_succ, i64_w, i32_w]
    rfl
  refine done_ (by kernel_rfl) ?_
  go_wp2
  go_ret2
  have e := hwH.out
  subst e
  exact ⟨.slice none 0 0, by rw [hg.out]; rfl, by rw [hg.out]; exact Kd.S_nil _ _ _ _ _, below_then hBH.out hBH.out.size hbd⟩
set_option maxRecDepth 20000 in
set_option maxHeartbeats 2000000 in
/-- Long enough. -/
theorem get_c3 (A : Option Addr) (c : Nat) (b : List Int) (w : World) (hR : (Kd.int .u8).C w A b.length b) (hc : b.length ≤ c) (hb : Bts b) (hl : b.length ≤ 1000000000) (hp : b.take 4 = [68, 70, 65, 49]) (h8 : 8 ≤ b.length) :
    Calls Try.prog 18 #[.slice A b.length c] w (GetPost w b) := by
  have hcv := fun (w : World) (C : Array Value) (n c : Nat) => Lib.run_convert_bytes_const (P := Try.prog) w 25 5 C n c Try.underlying25 Try.underlying5
  have hB := below_alloc (Below.refl w.heap.size w) markObj'
  obtain ⟨ad, rfl, _⟩ := Kd.at_int hR 0 (by omega) (by omega)
  have hcut := Lib.hid (cut_yes (c2 := 4) (Kd.C_below hR hB) hc (mark_C' w) hb mark_bts hl hp)
  have hBH := Lib.hid hB
  have hRH := Lib.hid hR
  have hbH := Lib.hid hb
  unfold markObj' at hcut hBH
  obtain ⟨N, hn⟩ : ∃ N, b.length = N + 8 := ⟨b.length - 8, by omega⟩
  have hnH := Lib.hid hn
  rw [hn] at hcut hc hl
  rw [hn]
  simp only [show N + 8 - 4 = N + 4 from rfl] at hcut
  have hlt : decide ((N : Int) < 0) = false := decide_eq_false (by omega)
  have hw1 : IntKind.i64.wrap ((N : Int) + 8 - 4) = ((N + 4 : Nat) : Int) := by rw [IntKind.wrap_i64]; omega
  have hw2 : IntKind.i64.wrap (((N + 8 : Nat) : Int) - 4) = ((N + 4 : Nat) : Int) := by rw [IntKind.wrap_i64]; omega
  have hs1 : (0 : Int) ≤ (N : Int) + 4 := by omega
  have hs2 : (N : Int) + 4 ≤ (c : Int) := by omega
  have hs3 : ((N : Int) + 4).toNat = N + 4 := by omega
  have hs4 : (N : Int) ≤ (N : Int) + 4 := by omega
  have hs5 : ¬ (c - 4 = N) := by omega
  have hT : (b.take (N + 4)).length = N + 4 := by rw [List.length_take]; omega
  have hD : (b.drop (N + 4)).length = 4 := by rw [List.length_drop]; omega
  have hTb : Hid (Bts (b.take (N + 4))) := fun x hx => hb x (List.mem_of_mem_take hx)
  have hDb : Hid (Bts (b.drop (N + 4))) := fun x hx => hb x (List.mem_of_mem_drop hx)
  have hCT : Hid ((Kd.int .u8).C w (some ad) (N + 4) (b.take (N + 4))) := C_take hR (N + 4) (by omega)
  have hCD : Hid ((Kd.int .u8).C w (some ((ad.add 4).add N)) 4 (b.drop (N + 4))) := by
    have h := C_drop hR (N + 4) (by omega)
    rw [hD] at h
    rw [addr_add, Nat.add_comm 4 N]
    exact h
  have hsum := Lib.hid (sum_f (b.take (N + 4)) (by omega) (N + 5) (by omega))
  have hpar : Hid (headOk b ↔ four (sumL (b.take (N + 4))) = b.drop (N + 4)) := Lib.hid (by
    unfold headOk
    rw [hn, show N + 8 - 4 = N + 4 from rfl]
    exact ⟨fun h => h.2.2, fun h => ⟨hp, by omega, h⟩⟩)
  have hTH := Lib.hid hT
  clear hR hp hB hn h8 hT hD hb
  have hCM : Hid ((Kd.int .u8).C w (some (ad.add 4)) N ((b.drop 4).take (b.length - 8))) := by
    have h := C_drop hRH.out 4 (by rw [hnH.out]; omega)
    have h2 := C_take h N (by rw [List.length_drop, hnH.out]; omega)
    rw [hnH.out, Nat.add_sub_cancel]
    exact h2
  have hML : Hid (((b.drop 4).take (b.length - 8)).length = N) := by
    rw [hnH.out, List.length_take, List.length_drop, hnH.out]; exact Lib.hid (by omega)
  have hMb : Hid (Bts ((b.drop 4).take (b.length - 8))) := fun x hx => hbH.out x (List.mem_of_mem_drop (List.mem_of_mem_take hx))
  have hadl : Hid (ad.block < w.heap.size) := by
    obtain ⟨ad', e, hcc⟩ := Kd.at_int hRH.out 0 (by omega) (by rw [hnH.out]; omega)
    injection e with e
    subst e
    exact World.block_lt_of_cell? w _ hcc
  have hpe : Hid (parse b = rstates (rcount ⟨(b.drop 4).take (b.length - 8), false⟩ 4096).1 (rcount ⟨(b.drop 4).take (b.length - 8), false⟩ 4096).2 []) := Lib.hid rfl
  generalize hMM : (b.drop 4).take (b.length - 8) = M at *
  generalize hTT : b.take (N + 4) = T at *
  generalize hDD : b.drop (N + 4) = D at *
  clear hTT hDD hMM
  have hx4 : sumL T = sumL T := rfl
  generalize sumL T = sm at *
  clear hx4
  go_enter Try.func18, Try.ntmps18
  go_wp2_with (go_at_call 27; refine hcut.out.mono ?_; rintro e w1 ⟨a', rfl, hca, hw1⟩; have hwH := Lib.hid hw1; have hcaH := Lib.hid (hca (by omega)); clear hw1 hca)
  rw [← hcaH.out] at hCD hCM
  refine start_ (n := 20) (S := (fun w' => True)) (ds := []) #[false, false, false, false, false, false, false, false, false, false, false, false, false, false, false, false, false, false, false, false] (by kernel_rfl) rfl rfl ?_ (fun hHeld => ?_)
  · trivial
  have hbd := below_drew1 (Below.refl w1.heap.size w1)
  generalize w1.drew = wd at *
  refine pure_ (i := 0) (N := (some 25)) (v := ?_) (a' := ?_) #[true, false, false, false, false, false, false, false, false, false, false, false, false, false, false, false, false, false, false, false] rfl rfl (by kernel_rfl) (fun _ _ _ h => h) (Or.inl ⟨by rfl, ?_⟩) ?_ ?_
  rotate_left
  · intro w'
    go_simp
    with_reducible rfl
  rotate_left
  · simp only [Act.put, List.setIfInBounds_toArray, List.set_cons_zero, List.set_cons_succ, i64_w, i32_w]
    rfl
  refine pure_ (i := 1) (N := (some 26)) (v := ?_) (a' := ?_) #[true, true, false, false, false, false, false, false, false, false, false, false, false, false, false, false, false, false, false, false] rfl rfl (by kernel_rfl) (fun _ _ _ h => h) (Or.inl ⟨by rfl, ?_⟩) ?_ ?_
  rotate_left
  · intro w'
    go_simp
    with_reducible rfl
  rotate_left
  · simp only [Act.put, List.setIfInBounds_toArray, List.set_cons_zero, List.set_cons_succ, i64_w, i32_w]
    rfl
  refine pure_ (i := 2) (N := (some 27)) (v := ?_) (a' := ?_) #[true, true, true, false, false, false, false, false, false, false, false, false, false, false, false, false, false, false, false, false] rfl rfl (by kernel_rfl) (fun _ _ _ h => h) (Or.inl ⟨by rfl, ?_⟩) ?_ ?_
  rotate_left
  · intro w'
    go_simp
    with_reducible rfl
  rotate_left
  · simp only [Act.put, List.setIfInBounds_toArray, List.set_cons_zero, List.set_cons_succ, i64_w, i32_w]
    rfl
  refine pure_ (i := 3) (N := (some 28)) (v := ?_) (a' := ?_) #[true, true, true, true, false, false, false, false, false, false, false, false, false, false, false, false, false, false, false, false] rfl rfl (by kernel_rfl) (fun _ _ _ h => h) (Or.inl ⟨by rfl, ?_⟩) ?_ ?_
  rotate_left
  · intro w'
    go_simp
    with_reducible rfl
  rotate_left
  · simp only [Act.put, List.setIfInBounds_toArray, List.set_cons_zero, List.set_cons_succ, i64_w, i32_w]
    rfl
  refine pure_ (i := 4) (N := (some 29)) (v := ?_) (a' := ?_) #[true, true, true, true, true, false, false, false, false, false, false, false, false, false, false, false, false, false, false, false] rfl rfl (by kernel_rfl) (fun _ _ _ h => h) (Or.inl ⟨by rfl, ?_⟩) ?_ ?_
  rotate_left
  · intro w'
    go_simp
    with_reducible rfl
  rotate_left
  · simp only [Act.put, List.setIfInBounds_toArray, List.set_cons_zero, List.set_cons_succ, i64_w, i32_w]
    rfl
  refine pure_ (i := 5) (N := (some 30)) (v := ?_) (a' := ?_) #[true, true, true, true, true, true, false, false, false, false, false, false, false, false, false, false, false, false, false, false] rfl rfl (by kernel_rfl) (fun _ _ _ h => h) (Or.inl ⟨by rfl, ?_⟩) ?_ ?_
  rotate_left
  · intro w'
    go_simp
    with_reducible rfl
  rotate_left
  · simp only [Act.put, List.setIfInBounds_toArray, List.set_cons_zero, List.set_cons_succ, i64_w, i32_w]
    rfl
  refine pure_ (i := 6) (N := (some 31)) (v := ?_) (a' := ?_) #[true, true, true, true, true, true, true, false, false, false, false, false, false, false, false, false, false, false, false, false] rfl rfl (by kernel_rfl) (fun _ _ _ h => h) (Or.inl ⟨by rfl, ?_⟩) ?_ ?_
  rotate_left
  · intro w'
    go_simp
    with_reducible rfl
  rotate_left
  · simp only [Act.put, List.setIfInBounds_toArray, List.set_cons_zero, List.set_cons_succ, i64_w, i32_w]
    rfl
  refine pure_ (i := 7) (N := (some 32)) (v := ?_) (a' := ?_) #[true, true, true, true, true, true, true, true, false, false, false, false, false, false, false, false, false, false, false, false] rfl rfl (by kernel_rfl) (fun _ _ _ h => h) (Or.inl ⟨by rfl, ?_⟩) ?_ ?_
  rotate_left
  · intro w'
    go_simp
    with_reducible rfl
  rotate_left
  · simp only [Act.put, List.setIfInBounds_toArray, List.set_cons_zero, List.set_cons_succ, i64_w, i32_w]
    rfl
  refine pure_ (i := 8) (N := (some 33)) (v := ?_) (a' := ?_) #[true, true, true, true, true, true, true, true, true, false, false, false, false, false, false, false, false, false, false, false] rfl rfl (by kernel_rfl) (fun _ _ _ h => h) (Or.inl ⟨by rfl, ?_⟩) ?_ ?_
  rotate_left
  · intro w'
    go_simp
    with_reducible rfl
  rotate_left
  · simp only [Act.put, List.setIfInBounds_toArray, List.set_cons_zero, List.set_cons_succ, i64_w, i32_w]
    rfl
  refine pure_ (i := 9) (N := (some 34)) (v := ?_) (a' := ?_) #[true, true, true, true, true, true, true, true, true, true, false, false, false, false, false, false, false, false, false, false] rfl rfl (by kernel_rfl) (fun _ _ _ h => h) (Or.inl ⟨by rfl, ?_⟩) ?_ ?_
  rotate_left
  · intro w'
    go_simp
    with_reducible rfl
  rotate_left
  · simp only [Act.put, List.setIfInBounds_toArray, List.set_cons_zero, List.set_cons_succ, i64_w, i32_w]
    rfl
  refine pure_ (i := 10) (N := (some 35)) (v := ?_) (a' := ?_) #[true, true, true, true, true, true, true, true, true, true, true, false, false, false, false, false, false, false, false, false] rfl rfl (by kernel_rfl) (fun _ _ _ h => h) (Or.inl ⟨by rfl, ?_⟩) ?_ ?_
  rotate_left
  · intro w'
    go_simp
    with_reducible rfl
  rotate_left
  · simp only [Act.put, List.setIfInBounds_toArray, List.set_cons_zero, List.set_cons_succ, i64_w, i32_w]
    rfl
  refine pure_ (i := 11) (N := (some 36)) (v := ?_) (a' := ?_) #[true, true, true, true, true, true, true, true, true, true, true, true, false, false, false, false, false, false, false, false] rfl rfl (by kernel_rfl) (fun _ _ _ h => h) (Or.inl ⟨by rfl, ?_⟩) ?_ ?_
  rotate_left
  · intro w'
    go_simp
    with_reducible rfl
  rotate_left
  · simp only [Act.put, List.setIfInBounds_toArray, List.set_cons_zero, List.set_cons_succ, i64_w, i32_w]
    rfl
  refine pure_ (i := 14) (N := (some 39)) (v := ?_) (a' := ?_) #[true, true, true, true, true, true, true, true, true, true, true, true, false, false, true, false, false, false, false, false] rfl rfl (by kernel_rfl) (fun _ _ _ h => h) (Or.inl ⟨by rfl, ?_⟩) ?_ ?_
  rotate_left
  · intro w'
    go_simp
    with_reducible rfl
  rotate_left
  · simp only [Act.put, List.setIfInBounds_toArray, List.set_cons_zero, List.set_cons_succ, i64_w, i32_w]
    rfl
  refine pure_ (i := 15) (N := (some 40)) (v := ?_) (a' := ?_) #[true, true, true, true, true, true, true, true, true, true, true, true, false, false, true, true, false, false, false, false] rfl rfl (by kernel_rfl) (fun _ _ _ h => h) (Or.inl ⟨by rfl, ?_⟩) ?_ ?_
  rotate_left
  · intro w'
    go_simp
    with_reducible rfl
  rotate_left
  · simp only [Act.put, List.setIfInBounds_toArray, List.set_cons_zero, List.set_cons_succ, i64_w, i32_w]
    rfl
  refine pure_ (i := 16) (N := (some 41)) (v := ?_) (a' := ?_) #[true, true, true, true, true, true, true, true, true, true, true, true, false, false, true, true, true, false, false, false] rfl rfl (by kernel_rfl) (fun _ _ _ h => h) (Or.inl ⟨by rfl, ?_⟩) ?_ ?_
  rotate_left
  · intro w'
    go_simp
    with_reducible rfl
  rotate_left
  · simp only [Act.put, List.setIfInBounds_toArray, List.set_cons_zero, List.set_cons_succ, i64_w, i32_w]
    rfl
  have e1 := hwH.out
  have hbw := Lib.hid (below_then hBH.out hBH.out.size (by rw [← e1]; exact hbd))
  clear hbd e1
  refine one_ (i := 12) (N := (some 37)) #[true, true, true, true, true, true, true, true, true, true, true, true, true, false, true, true, true, false, false, false] rfl rfl (by kernel_rfl) (by decide) (fun K hK => ?_)
  refine goes_ Try.func15 (by kernel_rfl) rfl #[.slice (some ad) (N + 4) c] (by rfl) rfl rfl (by simp only [List.map_toArray, List.map_cons, List.map_nil]; rfl) ?_
  have hsc := dfacode_Sum.calls _ (some ad) c T sm wd (by rw [hTH.out]; exact Kd.C_below hCT.out hbw.out) (by rw [hTH.out]; omega) hsum.out
  rw [hTH.out] at hsc
  refine hsc.mono ?_
  rintro e wb ⟨rfl, hdr⟩
  obtain ⟨nd, rfl⟩ := hdr.out
  refine ⟨_, rfl, ?_⟩
  refine hK.out _ _ trivial (fun hHeld => ?_)
  clear hK K hsc
  refine norm_ (a' := ?_) ?_ ?_
  rotate_left
  · show Act.put _ (some 37) _ = _
    simp only [Act.put, List.setIfInBounds_toArray, List.set_cons_zero, List.set_cons_succ, i64_w, i32_w]
    rfl
  have hbw2 := Lib.hid (below_then hbw.out hbw.out.size (pw_below_drewN (Below.refl wd.heap.size wd) nd))
  generalize wd.drewN nd = we at *
  refine one_ (i := 13) (N := (some 38)) #[true, true, true, true, true, true, true, true, true, true, true, true, true, true, true, true, true, false, false, false] rfl rfl (by kernel_rfl) (by decide) (fun K hK => ?_)
  refine goes_ Try.func24 (by kernel_rfl) rfl #[.int .u32 sm] (by rfl) rfl rfl (by simp only [List.map_toArray, List.map_cons, List.map_nil]; rfl) ?_
  refine (dfacode_four.calls sm (four sm) _ rfl).mono ?_
  rintro e wf ⟨v10, rfl, ho10, hb10⟩
  refine ⟨_, rfl, ?_⟩
  refine hK.out _ _ trivial (fun hHeld => ?_)
  clear hK K
  refine norm_ (a' := ?_) ?_ ?_
  rotate_left
  · show Act.put _ (some 38) _ = _
    simp only [Act.put, List.setIfInBounds_toArray, List.set_cons_zero, List.set_cons_succ, i64_w, i32_w]
    rfl
  have hbw3 := Lib.hid (below_then hbw2.out hbw2.out.size hb10)
  obtain ⟨A10, c10, hv10, _, hC10⟩ := Kd.R_reads ho10
  subst hv10
  refine one_ (i := 17) (N := (some 42)) #[true, true, true, true, true, true, true, true, true, true, true, true, true, true, true, true, true, true, false, false] rfl rfl (by kernel_rfl) (by decide) (fun K hK => ?_)
  refine goes_ Try.func28 (by kernel_rfl) rfl #[.slice A10 (four sm).length c10, .slice (some (a'.add N)) 4 (c - 4 - N)] (by rfl) rfl rfl (by simp only [List.map_toArray, List.map_cons, List.map_nil]; rfl) ?_
  refine (equal_c hC10 (Kd.C_below hCD.out hbw3.out) (four_bd sm) hDb.out).mono ?_
  rintro e wg ⟨rfl, rfl⟩
  refine ⟨_, rfl, ?_⟩
  refine hK.out _ _ trivial (fun hHeld => ?_)
  clear hK K
  refine norm_ (a' := ?_) ?_ ?_
  rotate_left
  · show Act.put _ (some 42) _ = _
    simp only [Act.put, List.setIfInBounds_toArray, List.set_cons_zero, List.set_cons_succ, i64_w, i32_w]
    rfl
  clear hC10 ho10 hb10 hdr
  by_cases hs : four sm = D
  · have hh := Lib.hid (hpar.out.2 hs)
    rw [decide_eq_true hs]
    clear hs
    refine pure_ (i := 18) (N := (some 43)) (v := ?_) (a' := ?_) #[true, true, true, true, true, true, true, true, true, true, true, true, true, true, true, true, true, true, true, false] rfl rfl (by kernel_rfl) (fun _ _ _ h => h) (Or.inl ⟨by rfl, ?_⟩) ?_ ?_
    rotate_left
    · intro w'
      go_simp
      with_reducible rfl
    rotate_left
    · simp only [Act.put, List.setIfInBounds_toArray, List.set_cons_zero, List.set_cons_succ, i64_w, i32_w]
      rfl
    refine pure_ (i := 19) (N := (some 44)) (v := ?_) (a' := ?_) #[true, true, true, true, true, true, true, true, true, true, true, true, true, true, true, true, true, true, true, true] rfl rfl (by kernel_rfl) (fun _ _ _ h => h) (Or.inl ⟨by rfl, ?_⟩) ?_ ?_
    rotate_left
    · intro w'
      go_simp
      with_reducible rfl
    rotate_left
    · simp only [Act.put, List.setIfInBounds_toArray, List.set_cons_zero, List.set_cons_succ, i64_w, i32_w]
      rfl
    refine done_ (by kernel_rfl) ?_
    clear hcut hcv hDb hTb hCD hCT hsum hpar
    go_upto_region 8 with (fail)
    have hgl : w.heap.size ≤ wg.heap.size := hbw3.out.size
    have hR0 : RdSome (wg.alloc (.cells #[.slice (some a') N (c - 4), .bool false] 69)) wg.heap.size w.heap.size ⟨M, false⟩ := by
      have hb := below_alloc (Below.refl wg.heap.size wg) (.cells #[.slice (some a') N (c - 4), .bool false] 69)
      have hb2 := below_then hbw3.out hgl hb
      refine ⟨a', c - 4, ?_, ?_, ?_, ?_, hMb.out, ?_⟩
      · rw [hML.out]; exact Blk.new wg 69 _
      · rw [hML.out]; omega
      · rw [hML.out]; exact Kd.C_below hCM.out hb2
      · rw [hcaH.out, add_blk]; exact hadl.out
      · rw [hML.out]; omega
    have hG0 : GetAt w (wg.alloc (.cells #[.slice (some a') N (c - 4), .bool false] 69)) wg.heap.size ⟨M, false⟩ (.slice none 0 0) [] :=
      ⟨hR0, Kd.S_nil _ _ _ _ _, below_then hbw3.out hgl (below_alloc (Below.refl _ _) _)⟩
    generalize wg.alloc (.cells #[.slice (some a') N (c - 4), .bool false] 69) = W0 at *
    generalize wg.heap.size = g at *
    have hG0H := Lib.hid hG0
    clear hG0
    obtain ⟨a0, c0, hR00⟩ := hR0
    go_wp2_with (go_at_call 31; refine (count_c hR00 hgl 4096 (by omega)).mono ?_; rintro e W1 ⟨rfl, hR1, hgr1⟩; have hG1 := Lib.hid (hG0H.out.grown hgl hgr1 hR1); clear hR1 hgr1)
    clear hR00 hG0H hML hMb hCM hadl hcaH hbw3 hbw2 hbw hwH
    have hcl := rcount_le ⟨M, false⟩ 4096
    generalize rcount ⟨M, false⟩ 4096 = r0 at *
    have hget : Hid (getL b = if (parse b).1.bad = false ∧ (parse b).1.rest = [] ∧ goodB (parse b).2 = true then ((parse b).2, 0) else ([], 110)) := Lib.hid (by unfold getL; rw [if_pos hh.out])
    rw [hpe.out] at hget
    clear hpe hh hbH hRH hnH hs1 hs2 hs3 hs4 hs5 hw1 hw2 hlt hBH hTH
    generalize hFI : rstates r0.1 r0.2 [] = FIN at *
    have hFIH := Lib.hid hFI
    clear hFI
    go_loopw [10, 11] (fun mm nn wr => ∃ (n : Nat) (p : Rd) (ms : List S57), nn = .int .i64 n ∧ n + ms.length ≤ 4096 ∧ Hid (GetAt w wr g p mm ms) ∧ Hid (rstates n p ms = FIN) ∧ Hid (ByM ms)) (fun _ nn _ => (intOf nn).toNat)
    case atStart => exact ⟨r0.1, r0.2, [], rfl, by simpa using hcl, hG1, hFIH, Lib.hid (fun s hs => by simp at hs)⟩
    case round =>
      clear hG1 hFIH
      obtain ⟨n, p, ms, rfl, hn, hG, hF, hBy⟩ := hrel
      obtain ⟨wo, rfl⟩ : ∃ wo : World, wo = wr := ⟨_, rfl⟩
      obtain ⟨a2, c2, hRd⟩ := hG.out.rd
      have hc0 : wo.cell? ⟨g, 0, none⟩ = some (.slice (some a2) p.rest.length c2) := hRd.blk.cell 0
      have hc1 : wo.cell? ⟨g, 1, none⟩ = some (.bool p.bad) := hRd.blk.cell 1
      have hRdH := Lib.hid hRd
      clear hRd
      cases n with
      | zero =>
        have hd0 : decide ((0 : Int) < ((0 : Nat) : Int)) = false := by decide
        have hfin : Hid (FIN = (p, ms)) := Lib.hid hF.out.symm
        rw [hfin.out] at hget
        have hbG := Lib.hid hG.out.b
        have hwl : w.heap.size ≤ wo.heap.size := Nat.le_trans hgl (Nat.le_of_lt hG.out.glt)
        clear hfin hF hn hRdH
        cases hpb : p.bad with
        | true =>
          rw [hpb, if_neg (by simp)] at hget
          rw [hpb] at hc1
          clear hpb hG hBy
          go_wp2
          go_ret2
          exact ⟨.slice none 0 0, by rw [hget.out]; rfl, by rw [hget.out]; exact Kd.S_nil _ _ _ _ _, hbG.out⟩
        | false =>
          rw [hpb] at hget hc1
          cases hrest : p.rest with
          | cons x r =>
            rw [hrest, if_neg (by simp)] at hget
            rw [hrest] at hc0
            simp only [List.length_cons] at hc0
            have hr0 : decide ((0 : Int) < ((r.length + 1 : Nat) : Int)) = true := decide_eq_true (by omega)
            clear hpb hG hBy hrest
            go_wp2
            go_ret2
            exact ⟨.slice none 0 0, by rw [hget.out]; rfl, by rw [hget.out]; exact Kd.S_nil _ _ _ _ _, hbG.out⟩
          | nil =>
            rw [hrest] at hget hc0
            simp only [List.length_nil] at hc0
            obtain ⟨Am, cm, hmv, hml, hCm⟩ := Kd.R_reads (Kd.S_R hG.out.m)
            subst hmv
            obtain ⟨K, hK⟩ := check_f ms hBy.out
            have hck := Lib.hid (dfa_Check.calls K Am cm ms _ wo hCm hml (hK K (Nat.le_refl _)))
            have hGm := Lib.hid hG.out.m
            clear hpb hG hBy hrest hCm hK
            by_cases hgd : goodB ms = true
            · rw [if_pos ⟨rfl, rfl, hgd⟩] at hget
              rw [if_pos hgd] at hck
              clear hgd
              go_wp2_with (go_at_call 22; refine hck.out.mono ?_; rintro e w9 ⟨rfl, hb9⟩)
              go_ret2
              exact ⟨.slice Am ms.length cm, by rw [hget.out]; rfl, by rw [hget.out]; exact Kd.S_mono (Kd.S_below hGm.out hb9) (fun _ _ => trivial), below_then hbG.out hwl hb9⟩
            · rw [if_neg (fun h => hgd h.2.2)] at hget
              rw [if_neg hgd] at hck
              clear hgd
              go_wp2_with (go_at_call 22; refine hck.out.mono ?_; rintro e w9 ⟨rfl, hb9⟩)
              go_ret2
              exact ⟨.slice none 0 0, by rw [hget.out]; rfl, by rw [hget.out]; exact Kd.S_nil _ _ _ _ _, below_then hbG.out hwl hb9⟩
      | succ n =>
        have hd0 : decide ((0 : Int) < ((n + 1 : Nat) : Int)) = true := decide_eq_true (by omega)
        cases hpb : p.bad with
        | true =>
          have hfin : Hid (FIN = (p, ms)) := Lib.hid (by have h := hF.out; rw [rstates, if_pos hpb] at h; exact h.symm)
          rw [hfin.out, hpb, if_neg (by simp)] at hget
          have hbG := Lib.hid hG.out.b
          rw [hpb] at hc1
          clear hfin hF hn hRdH hpb hG hBy
          go_wp2
          go_ret2
          exact ⟨.slice none 0 0, by rw [hget.out]; rfl, by rw [hget.out]; exact Kd.S_nil _ _ _ _ _, hbG.out⟩
        | false =>
          rw [hpb] at hc1
          have hF2 : Hid (rstates n (rstate p).2 (ms ++ [(rstate p).1]) = FIN) := Lib.hid (by have h := hF.out; rw [rstates, hpb, if_neg (by simp)] at h; exact h)
          clear hF hpb
          go_upto_region 12 with (go_at_call 29; refine (number_c hRdH.out hgl).mono ?_; rintro e w2 ⟨rfl, hR2, hgr2⟩)
          have hG2 := hG.out.grown hgl hgr2 hR2
          have hgh := hG2.glt
          have hA0 := hG2.begin hgl ((rnum p).1 : Int)
          have hpd : Hid (Bts (rnum p).2.rest) := Lib.hid (by obtain ⟨_, _, hq⟩ := hR2; exact hq.bd)
          have hpl : (rnum p).2.rest.length ≤ 1000000000 := by obtain ⟨_, _, hq⟩ := hR2; exact hq.len
          have hrs : Hid (rstate p = (⟨((rnum p).1 : Int), (rarcs (rcount (rnum p).2 (rnum p).2.rest.length).1 (rcount (rnum p).2 (rnum p).2.rest.length).2 []).2⟩, (rarcs (rcount (rnum p).2 (rnum p).2.rest.length).1 (rcount (rnum p).2 (rnum p).2.rest.length).2 []).1)) := Lib.hid rfl
          rw [hrs.out] at hF2
          have hcl2 := rcount_le (rnum p).2 (rnum p).2.rest.length
          clear hrs hR2 hgr2 hG hG2 hRdH hc0 hc1
          generalize (rnum p).2 = p1 at *
          generalize (((rnum p).1 : Nat) : Int) = acc at *
          generalize w2.alloc (.cells #[.int .u64 acc, .slice none 0 0] 57) = Wa at *
          generalize w2.heap.size = h at *
          obtain ⟨a3, c3, hRa⟩ := hA0.rd
          have hcq : Wa.cell? ⟨g, 0, none⟩ = some (.slice (some a3) p1.rest.length c3) := hRa.blk.cell 0
          have hRaH := Lib.hid hRa
          have hA0H := Lib.hid hA0
          clear hRa hA0
          go_wp2_with (go_at_call 31; refine (count_c hRaH.out hgl p1.rest.length hpl).mono ?_; rintro e w3 ⟨rfl, hR3, hgr3⟩; have hA1 := Lib.hid (hA0H.out.grown hgl hgh hgr3 hR3); clear hR3 hgr3)
          clear hA0H hRaH hcq
          generalize rcount p1 p1.rest.length = y at *
          generalize hFA : rarcs y.1 y.2 [] = FA at *
          have hFAH := Lib.hid hFA
          clear hFA
          go_loopw [13] (fun kk wr => ∃ (k : Nat) (q : Rd) (av : Value) (arcs : List S59), kk = .int .i64 k ∧ k + arcs.length ≤ 1000000000 ∧ Hid (ArcAt w wr g h q u10 ms acc av arcs) ∧ Hid (rarcs k q arcs = FA) ∧ Hid (ArB arcs)) (fun kk _ => (intOf kk).toNat)
          case atStart => exact ⟨y.1, y.2, .slice none 0 0, [], rfl, by simp only [List.length_nil]; omega, hA1, hFAH, Lib.hid (fun a ha => by simp at ha)⟩
          case round =>
            clear hA1 hFAH hpd hpl hcl2
            obtain ⟨k, q, av, arcs, rfl, hk, hA, hFa, hAb⟩ := hrel
            obtain ⟨wp, rfl⟩ : ∃ wp : World, wp = wr := ⟨_, rfl⟩
            obtain ⟨a4, c4, hRq⟩ := hA.out.rd
            have hc1 : wp.cell? ⟨g, 1, none⟩ = some (.bool q.bad) := hRq.blk.cell 1
            have hqb := Lib.hid hRq.bd
            have hRqH := Lib.hid hRq
            clear hRq
            cases k with
            | zero =>
              have hk0 : decide ((0 : Int) < ((0 : Nat) : Int)) = false := by decide
              have hFe : Hid (FA = (q, arcs)) := Lib.hid hFa.out.symm
              rw [hFe.out] at hF2
              clear hFa hFe hqb hRqH
              have hh0 : wp.cell? ⟨h, 0, none⟩ = some (.int .u64 acc) := hA.out.s.cell 0
              have hh1 : wp.cell? ⟨h, 1, none⟩ = some av := hA.out.s.cell 1
              obtain ⟨A8, c8, hv8⟩ := Kd.R_slice hA.out.r
              subst hv8
              have hwl7 : w.heap.size ≤ wp.heap.size := by have := hA.out.s.lt; omega
              have hgw : g < wp.heap.size := Nat.lt_trans hgh hA.out.s.lt
              have hmk := Lib.hid ((Kd.S_R hA.out.m).1)
              have hokp : Hid (∀ k, h < k → k ≠ g ∧ some k ≠ u10.ownBlock) := fun k hk => ⟨by omega, fun e => by have := (hmk.out k e.symm).2; omega⟩
              have hfrs : Hid (∀ k, wp.heap.size ≤ k → k ≠ g) := fun k hk => by omega
              have hSm : Hid (Kd.S k57 57 wp w.heap.size (fun k => k ≠ g ∧ ¬ h < k) u10 ms) := Kd.S_mono hA.out.m (fun k hk => ⟨hk.1, by have := hk.2; omega⟩)
              have hMk : Hid (k57.M wp w.heap.size (fun k => h < k) (⟨acc, arcs⟩ : S57) [.int .u64 acc, .slice A8 arcs.length c8]) := k57_mkM _ _ _ (⟨acc, arcs⟩ : S57) hA.out.r
              have hl18 : (ms.length + 1) * 32 ≤ 140737488355328 := by omega
              go_wp2_with ((with_reducible refine gate_builtin (b := .append) (xs := #[.tmp 102, .tmp 104]) rfl ?_); at_builtin; refine Kd.S_append k57 (w0 := w) w.heap.size rfl (.tmp 102) (.tmp 104) 23 57 (.agg #[(.int .u64 0), (.slice none 0 0)]) 32 rfl Try.underlying23 info57 rfl (Nat.lt_of_sub_eq_succ rfl) (Nat.lt_of_sub_eq_succ rfl) u10 ms (⟨acc, arcs⟩ : S57) [.int .u64 acc, .slice A8 arcs.length c8] (fun k => k ≠ g) (fun k => h < k) rfl rfl hMk.out hokp.out hfrs.out hSm.out hA.out.b hwl7 hl18 ?_; intro v9 w9 ho9 hb9 hg9 hat9; have hG9 := Lib.hid (GetAt.closed hA.out.rd hA.out.m hA.out.b hgw hgl ho9 hb9 hg9); clear ho9 hb9 hg9 hat9)
              go_roundw
              case rel => exact ⟨n, q, ms ++ [⟨acc, arcs⟩], by go_num, by rw [List.length_append, List.length_singleton]; omega, hG9, hF2, Lib.hid (ByM_snoc hBy.out (by omega) hAb.out)⟩
              case measure => simp [intOf]
            | succ k =>
              have hk0 : decide ((0 : Int) < ((k + 1 : Nat) : Int)) = true := decide_eq_true (by omega)
              cases hqq : q.bad with
              | true =>
                rw [hqq] at hc1
                have hFe : Hid (FA = (q, arcs)) := Lib.hid (by have h := hFa.out; rw [rarcs, if_pos hqq] at h; exact h.symm)
                clear hqq
                rw [hFe.out] at hF2
                clear hFa hFe hqb hRqH
                have hh0 : wp.cell? ⟨h, 0, none⟩ = some (.int .u64 acc) := hA.out.s.cell 0
                have hh1 : wp.cell? ⟨h, 1, none⟩ = some av := hA.out.s.cell 1
                obtain ⟨A8, c8, hv8⟩ := Kd.R_slice hA.out.r
                subst hv8
                have hwl7 : w.heap.size ≤ wp.heap.size := by have := hA.out.s.lt; omega
                have hgw : g < wp.heap.size := Nat.lt_trans hgh hA.out.s.lt
                have hmk := Lib.hid ((Kd.S_R hA.out.m).1)
                have hokp : Hid (∀ k, h < k → k ≠ g ∧ some k ≠ u10.ownBlock) := fun k hk => ⟨by omega, fun e => by have := (hmk.out k e.symm).2; omega⟩
                have hfrs : Hid (∀ k, wp.heap.size ≤ k → k ≠ g) := fun k hk => by omega
                have hSm : Hid (Kd.S k57 57 wp w.heap.size (fun k => k ≠ g ∧ ¬ h < k) u10 ms) := Kd.S_mono hA.out.m (fun k hk => ⟨hk.1, by have := hk.2; omega⟩)
                have hMk : Hid (k57.M wp w.heap.size (fun k => h < k) (⟨acc, arcs⟩ : S57) [.int .u64 acc, .slice A8 arcs.length c8]) := k57_mkM _ _ _ (⟨acc, arcs⟩ : S57) hA.out.r
                have hl18 : (ms.length + 1) * 32 ≤ 140737488355328 := by omega
                go_wp2_with ((with_reducible refine gate_builtin (b := .append) (xs := #[.tmp 102, .tmp 104]) rfl ?_); at_builtin; refine Kd.S_append k57 (w0 := w) w.heap.size rfl (.tmp 102) (.tmp 104) 23 57 (.agg #[(.int .u64 0), (.slice none 0 0)]) 32 rfl Try.underlying23 info57 rfl (Nat.lt_of_sub_eq_succ rfl) (Nat.lt_of_sub_eq_succ rfl) u10 ms (⟨acc, arcs⟩ : S57) [.int .u64 acc, .slice A8 arcs.length c8] (fun k => k ≠ g) (fun k => h < k) rfl rfl hMk.out hokp.out hfrs.out hSm.out hA.out.b hwl7 hl18 ?_; intro v9 w9 ho9 hb9 hg9 hat9; have hG9 := Lib.hid (GetAt.closed hA.out.rd hA.out.m hA.out.b hgw hgl ho9 hb9 hg9); clear ho9 hb9 hg9 hat9)
                go_roundw
                case rel => exact ⟨n, q, ms ++ [⟨acc, arcs⟩], by go_num, by rw [List.length_append, List.length_singleton]; omega, hG9, hF2, Lib.hid (ByM_snoc hBy.out (by omega) hAb.out)⟩
                case measure => simp [intOf]
              | false =>
                rw [hqq] at hc1
                have hFa2 : Hid (rarcs k (rarc q).2 (arcs ++ [(rarc q).1]) = FA) := Lib.hid (by have h := hFa.out; rw [rarcs, hqq, if_neg (by simp)] at h; exact h)
                clear hFa hqq
                go_upto_region 16 with (first
                  | (go_at_call 30; refine (byte_c hRqH.out hgl).mono ?_; rintro e w4 ⟨rfl, hR4, hgr4⟩; have hA2 := Lib.hid (hA.out.grown hgl hgh hgr4 hR4); obtain ⟨a5, c5, hR5⟩ := hR4; have hR5H := Lib.hid hR5; have hqb5 := Lib.hid hR5.bd; clear hR5 hgr4 hRqH hA)
                  | (go_at_call 30; refine (byte_c hR5H.out hgl).mono ?_; rintro e w5 ⟨rfl, hR6, hgr6⟩; have hA3 := Lib.hid (hA2.out.grown hgl hgh hgr6 hR6); clear hR6 hgr6 hR5H hA2))
                have hlo := Lib.hid (rbyte_bd q hqb.out)
                have hhi := Lib.hid (rbyte_bd _ hqb5.out)
                have hrc : Hid (rarc q = (⟨(rbyte q).1, (rbyte (rbyte q).2).1, ((rcount (rbyte (rbyte q).2).2 4096).1 : Int)⟩, (rcount (rbyte (rbyte q).2).2 4096).2)) := Lib.hid rfl
                rw [hrc.out] at hFa2
                clear hrc hqb hqb5 hc1
                generalize (rbyte (rbyte q).2).2 = q2 at *
                generalize (rbyte (rbyte q).2).1 = hi at *
                generalize (rbyte q).1 = lo at *
                have hbq := below_alloc (Below.refl w5.heap.size w5) (.cells #[.int .u8 lo, .int .u8 hi, .int .i64 0] 59)
                have hSq := Blk.new w5 59 #[.int .u8 lo, .int .u8 hi, .int .i64 0]
                have hA4 := hA3.out.below hgl hgh hbq
                have hgq : g < w5.heap.size := Nat.lt_trans hgh hA3.out.s.lt
                have hwq : w.heap.size ≤ w5.heap.size := by omega
                generalize w5.alloc (.cells #[.int .u8 lo, .int .u8 hi, .int .i64 0] 59) = Wb at *
                obtain ⟨a6, c6, hR7⟩ := hA4.rd
                have hR7H := Lib.hid hR7
                have hbqH := Lib.hid hbq
                have hSqH := Lib.hid hSq
                have hA4b := Lib.hid hA4.b
                clear hR7 hA4 hbq hSq
                go_upto_region 17 with (go_at_call 31; refine (count_c hR7H.out hgl 4096 (by omega)).mono ?_; rintro e w6 ⟨rfl, hR8, hgr8⟩; have hSq6 : Blk w6 w5.heap.size 59 #[.int .u8 lo, .int .u8 hi, .int .i64 0] := (hgr8.block _ hSqH.out.lt (fun e => by injection e with e; omega)).trans hSqH.out; have hc6 : w6.cell? ⟨w5.heap.size, 2, none⟩ = some (.int .i64 0) := hSq6.cell 2; have hf6 := hSq6.frozen 2)
                generalize ((rcount q2 4096).1 : Int) = z at *
                have hfar : ∀ k, k ≠ w5.heap.size → (w6.setCell ⟨w5.heap.size, 2, none⟩ (.int .i64 z)).heap[k]? = w6.heap[k]? := fun k hk => Below.heap_setCell w6 ⟨w5.heap.size, 2, none⟩ _ k hk
                have hb6 := below_grown hA4b.out (Nat.le_trans hwq hbqH.out.size) hgl hgr8
                have hA7 := Lib.hid (hA3.out.keep hgh (w1 := w6.setCell ⟨w5.heap.size, 2, none⟩ (.int .i64 z)) (fun k hk hkg => ((hfar k (by omega)).trans (hgr8.block k (Nat.lt_of_lt_of_le hk hbqH.out.size) (fun e => hkg (by injection e)))).trans (hbqH.out.block k hk)) (RdSome.move hR8 (hfar g (by omega)) (fun k hk => hfar k (by omega))) (hb6.setCell hwq _))
                have hSq7 : Blk (w6.setCell ⟨w5.heap.size, 2, none⟩ (.int .i64 z)) w5.heap.size 59 #[.int .u8 lo, .int .u8 hi, .int .i64 z] := hSq6.set_ 2 (.int .i64 z)
                clear hfar hb6 hR8 hgr8 hSq6 hc6 hf6 hA3 hA4b hR7H hbqH hSqH
                generalize w6.setCell ⟨w5.heap.size, 2, none⟩ (.int .i64 z) = w7 at *
                generalize w5.heap.size = qb at *
                generalize (rcount q2 4096).2 = q3 at *
                have hq0 : w7.cell? ⟨qb, 0, none⟩ = some (.int .u8 lo) := hSq7.cell 0
                have hq1 : w7.cell? ⟨qb, 1, none⟩ = some (.int .u8 hi) := hSq7.cell 1
                have hq2 : w7.cell? ⟨qb, 2, none⟩ = some (.int .i64 z) := hSq7.cell 2
                have hh1 : w7.cell? ⟨h, 1, none⟩ = some av := hA7.out.s.cell 1
                clear hSq7
                obtain ⟨A8, c8, hv8⟩ := Kd.R_slice hA7.out.r
                subst hv8
                have hb7 := Lib.hid (below_alloc (Below.refl w7.heap.size w7) (.cells #[.int .u8 lo, .int .u8 hi, .int .i64 z] 59))
                have hwl7 : w.heap.size ≤ w7.heap.size := by have := hA7.out.s.lt; omega
                have hlen8 : arcs.length + 1 ≤ 1000000000 := by omega
                go_wp2_with ((with_reducible refine gate_builtin (b := .append) (xs := #[.tmp 97, .tmp 99]) rfl ?_); at_builtin; refine Kd.R_append k59 (w0 := w) w.heap.size rfl (.tmp 97) (.tmp 99) 55 59 (.agg #[(.int .u8 0), (.int .u8 0), (.int .i64 0)]) 16 rfl Try.underlying55 info59 rfl (by decide) (by decide) (.slice A8 arcs.length c8) arcs (⟨lo, hi, z⟩ : S59) [.int .u8 lo, .int .u8 hi, .int .i64 z] (fun k => h < k) (fun _ => False) rfl rfl (k59_mkM _ _ _ (⟨lo, hi, z⟩ : S59)) (fun _ hk => hk.elim) (fun k hk => Nat.lt_of_lt_of_le hA7.out.s.lt hk) hA7.out.r hA7.out.b hwl7 (by omega) ?_; intro v9 w9 ho9 hb9 hg9 hat9; obtain ⟨A9, c9, hv9⟩ := Kd.R_slice ho9; rw [List.length_append, List.length_singleton] at hv9; subst hv9; have hA8 := Lib.hid (hA7.out.put hgl hgh ho9 hb9 hg9); have hS9 := hA7.out.blk_grown hg9; have hcc := hS9.cell 1; have hff := hS9.frozen 1; clear hS9 ho9 hb9 hg9 hat9)
                go_roundw
                case rel => exact ⟨k, q3, _, arcs ++ [⟨lo, hi, z⟩], by go_num, by rw [List.length_append, List.length_singleton]; omega, hA8, hFa2, Lib.hid (ArB_snoc hAb.out hlo.out hhi.out)⟩
                case measure => simp [intOf]
  · have hg := Lib.hid (get_no (b := b) (fun h => hs (hpar.out.1 h)))
    rw [decide_eq_false hs]
    clear hs
    refine pure_ (i := 18) (N := (some 43)) (v := ?_) (a' := ?_) #[true, true, true, true, true, true, true, true, true, true, true, true, true, true, true, true, true, true, true, false] rfl rfl (by kernel_rfl) (fun _ _ _ h => h) (Or.inl ⟨by rfl, ?_⟩) ?_ ?_
    rotate_left
    · intro w'
      go_simp
      with_reducible rfl
    rotate_left
    · simp only [Act.put, List.setIfInBounds_toArray, List.set_cons_zero, List.set_cons_succ, i64_w, i32_w]
      rfl
    refine pure_ (i := 19) (N := (some 44)) (v := ?_) (a' := ?_) #[true, true, true, true, true, true, true, true, true, true, true, true, true, true, true, true, true, true, true, true] rfl rfl (by kernel_rfl) (fun _ _ _ h => h) (Or.inl ⟨by rfl, ?_⟩) ?_ ?_
    rotate_left
    · intro w'
      go_simp
      with_reducible rfl
    rotate_left
    · simp only [Act.put, List.setIfInBounds_toArray, List.set_cons_zero, List.set_cons_succ, i64_w, i32_w]
      rfl
    refine done_ (by kernel_rfl) ?_
    go_wp2
    go_ret2
    exact ⟨.slice none 0 0, by rw [hg.out]; rfl, by rw [hg.out]; exact Kd.S_nil _ _ _ _ _, hbw3.out⟩
/-! What Get comes to. -/
def PreG (b : List Int) : Prop := Bts b ∧ b.length ≤ 1000000000
instance (b : List Int) : Decidable (PreG b) := by unfold PreG Bts; infer_instance
def P.dfacode_Get.f (b : List Int) : Option (List S57 × Int) := if PreG b then some (getL b) else none
theorem P.dfacode_Get.calls (A : Option Addr) (c : Nat) (b : List Int) (r1 : List S57) (r2 : Int) (w : World) (hR : Kd.C (Kd.int .u8) w A b.length b) (hc : b.length ≤ c) (h : P.dfacode_Get.f b = some (r1, r2)) :
    Calls Try.prog 18 #[.slice A b.length c] w fun e w' => ∃ v0 : Value, e = .returned (.tuple #[v0, .int .i64 r2]) ∧ Kd.S k57 57 w' w.heap.size (fun _ => True) v0 r1 ∧ Below w.heap.size w w' := by
  unfold P.dfacode_Get.f at h
  split at h
  · rename_i hp
    injection h with h
    have h1 : Calls Try.prog 18 #[.slice A b.length c] w (GetPost w b) := by
      by_cases h4 : b.take 4 = [68, 70, 65, 49]
      · rcases Nat.lt_or_ge b.length 8 with h8 | h8
        · exact get_c2 A c b w hR hc hp.1 hp.2 h4 h8
        · exact get_c3 A c b w hR hc hp.1 hp.2 h4 h8
      · exact get_c1 A c b w hR hc hp.1 hp.2 h4
    refine h1.mono fun e w' ⟨v0, e1, e2, e3⟩ => ?_
    rw [h] at e1 e2
    exact ⟨v0, e1, e2, e3⟩
  · cases h
end Go.Proofs.Ytokdggmobhnnpaa
