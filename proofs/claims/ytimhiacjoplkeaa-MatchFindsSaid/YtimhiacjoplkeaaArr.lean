/- Arrays as whole rows of cells: laws that the walks over places use. Own text. -/
import Derived.Test.YtimhiacjoplkeaaNod
import Derived.WalkKit
import Derived.Laws.Rows
import Derived.Laws.Tables
import Derived.Test.YtimhiacjoplkeaaWWords
namespace Go.Proofs.Ytimhiacjoplkeaa
open Go.RowKit Go.Proofs.YtimhiacjoplkeaaW.PrintWords
set_option linter.unusedVariables false

/-- Block g is just the cells cs. -/
def Blk (w : World) (g : Nat) (t : TypeId) (cs : Array Value) : Prop := w.heap[g]? = some (.cells cs t (0, 0))
theorem Blk.lt {w : World} {g : Nat} {t : TypeId} {cs : Array Value} (h : Blk w g t cs) : g < w.heap.size := by
  rcases Nat.lt_or_ge g w.heap.size with hlt | hge
  · exact hlt
  · unfold Blk at h; rw [Array.getElem?_eq_none hge] at h; cases h
theorem Blk.cell {w : World} {g : Nat} {t : TypeId} {cs : Array Value} (h : Blk w g t cs) (i : Nat) : w.cell? ⟨g, i, none⟩ = cs[i]? := cell_of_row w g i cs t (0, 0) h
theorem Blk.frozen {w : World} {g : Nat} {t : TypeId} {cs : Array Value} (h : Blk w g t cs) (i : Nat) : w.frozen? ⟨g, i, none⟩ = false := by
  unfold Blk at h
  simp [World.frozen?, h]
theorem Blk.new (w : World) (t : TypeId) (cs : Array Value) : Blk (w.alloc (.cells cs t)) w.heap.size t cs := heap_alloc_new w _
theorem Blk.alloc {w : World} {g : Nat} {t : TypeId} {cs : Array Value} (h : Blk w g t cs) (o : Obj) : Blk (w.alloc o) g t cs := (Below.heap_alloc w o g h.lt).trans h
theorem Blk.set_ {w : World} {g : Nat} {t : TypeId} {cs : Array Value} (h : Blk w g t cs) (i : Nat) (u : Value) : Blk (w.setCell ⟨g, i, none⟩ u) g t (cs.setIfInBounds i u) := by
  unfold Blk at h ⊢
  simp [World.setCell, Array.getElem?_modify, h]
theorem Blk.far {w : World} {g : Nat} {t : TypeId} {cs : Array Value} (h : Blk w g t cs) {p : Addr} (hp : g ≠ p.block) (u : Value) : Blk (w.setCell p u) g t cs := (Below.heap_setCell w p u g hp).trans h
theorem Blk.below {w w' : World} {g : Nat} {t : TypeId} {cs : Array Value} {B : Nat} (h : Blk w g t cs) (hb : Below B w w') (hg : g < B) : Blk w' g t cs := (hb.block g hg).trans h

/-- Whole numbers as cells. -/
def arI (k : IntKind) (l : List Int) : Array Value := (l.map (Value.int k)).toArray
theorem arI_get (k : IntKind) (l : List Int) (i : Nat) (h : i < l.length) : (arI k l)[i]? = some (.int k (l.getD i 0)) := by
  simp [arI, List.getD_eq_getElem?_getD, h]
theorem arI_size (k : IntKind) (l : List Int) : (arI k l).size = l.length := by simp [arI]
theorem arI_set (k : IntKind) (l : List Int) (i : Nat) (x : Int) : (arI k l).setIfInBounds i (.int k x) = arI k (l.set i x) := by
  simp [arI]
theorem arI_rep (k : IntKind) (n : Nat) (x : Int) : Array.replicate n (.int k x) = arI k (List.replicate n x) := by
  simp [arI]
theorem arI_made (k : IntKind) (n : Nat) (x : Int) : madeCells #[.int k x] n = arI k (List.replicate n x) := by
  rw [← arI_rep]
  apply Array.ext
  · simp [madeCells]
  · intro i h1 h2
    simp [madeCells, Nat.mod_one]
theorem Blk.setI {w : World} {g : Nat} {t : TypeId} {k : IntKind} {l : List Int} (h : Blk w g t (arI k l)) (i : Nat) (x : Int) : Blk (w.setCell ⟨g, i, none⟩ (.int k x)) g t (arI k (l.set i x)) := by
  rw [← arI_set]; exact h.set_ i _
theorem Blk.cellI {w : World} {g : Nat} {t : TypeId} {k : IntKind} {l : List Int} (h : Blk w g t (arI k l)) (i : Nat) (hi : i < l.length) : w.cell? ⟨g, i, none⟩ = some (.int k (l.getD i 0)) := (h.cell i).trans (arI_get k l i hi)
theorem Blk.to_R {w : World} {g e : Nat} {k : IntKind} {xs : List Int} (h : Blk w g e (arI k xs)) {base : Nat} {ok : Nat → Prop} (hb : base ≤ g) (hn : xs.length ≤ maxLen) (hok : ok g) :
    (Kd.int k).R e w base ok (.slice (some ⟨g, 0, none⟩) xs.length xs.length) xs :=
  Kd.R_of_own ⟨by simp [encs], .inr ⟨g, xs.length, arI k xs, rfl, hb, h, Nat.le_refl _, hn, by rw [arI_size, Nat.mul_one], by simp only [arI, encs, Nat.mul_one]; rw [List.take_of_length_le (by simp)]⟩⟩ (fun k hk => by
    have : g = k := by simpa [Value.ownBlock] using hk
    subst this; exact hok)

theorem Blk.setRow_ {w : World} {g : Nat} {t : TypeId} {cs : Array Value} (h : Blk w g t cs) (cs' : Array Value) : Blk (w.setRow g cs') g t cs' := setRow_heap w g cs cs' t (0, 0) h
theorem Blk.setRow_far {w : World} {g k : Nat} {t : TypeId} {cs : Array Value} (h : Blk w g t cs) (cs' : Array Value) (hk : g ≠ k) : Blk (w.setRow k cs') g t cs := (setRow_other w k g cs' hk).trans h
theorem below_setRow_ {B g : Nat} {w0 w : World} (hb : Below B w0 w) (hBg : B ≤ g) (cs : Array Value) : Below B w0 (w.setRow g cs) :=
  ⟨hb.os, hb.tape, hb.output, by rw [size_setRow]; exact hb.size, fun i hi => (setRow_other w g i cs (by omega)).trans (hb.block i hi)⟩
theorem arI_one (k : IntKind) (l : List Int) : (arI k l).all (·.oneCell') = true := by
  rw [Array.all_eq_true]; intro i hi; simp [arI, Value.oneCell']
section
variable {P : Program}
/-- make of so many elements of one cell, all known. -/
theorem wpList_make_exact {w : World} {ops : Array Oper} {rest : List Oper} {o : Oper} {a : Act} {Q : Exit → Act → World → Prop}
    (hg : o.guard = none) (l c : Operand) (t : TypeId) (hop : o.op = Op.makeSlice t l c) (e : TypeId) (z : Value) (bytes : Nat) (h1 : P.underlying t = some (.slice e))
    (hinfo : (P.info? e).map (fun i => (i.zero, i.size, i.bytes)) = some (some z, 1, bytes)) (n : Nat) (L : Int) (hl : a.eval l = .int .i64 L) (hc : a.eval c = .int .i64 L) (hL : L = (n : Int)) (hb : n * bytes ≤ 281474976710656) (hn : n ≤ 281474976710656)
    (hK : wpList P ops Q rest (a.put o.dst (.slice (some ⟨w.heap.size, 0, none⟩) n n)) (w.alloc (.cells (madeCells z.cells n) e))) : wpList P ops Q (o :: rest) a w := by
  refine wpList_plain hg fun K hK' => ?_
  subst hL
  obtain ⟨i0, hi, hzz⟩ := Option.map_eq_some_iff.1 hinfo
  simp only [Prod.mk.injEq] at hzz
  obtain ⟨hz0, hz1, hz2⟩ := hzz
  have hr := run_make (P := P) w t e i0 z h1 hi hz0 .i64 .i64 (n : Int) (n : Int) (by omega) (by omega)
    (by
      have h3 : ((i0.bytes * n : Nat) : Int) ≤ 281474976710656 := by rw [hz2, Nat.mul_comm]; omega
      rwa [Int.natCast_mul] at h3) (by omega)
  simp only [Int.toNat_natCast, hz1, Nat.mul_one] at hr
  unfold Oper.wp
  simp [execOp, hop, hl, hc, hr, Result.andThen]
  exact hK' _ _ hK
/-- An array's element. -/
theorem run_index_arr (T E n i : Nat) (cs : Array Value) (v : Value) (hu : P.underlying T = some (.array n E)) (he : (P.info? E).map (·.size) = some 1)
    (hag : ∀ w, (isAgg E).run P w = .ok false w) (hn : cs.size = n) (hi : i < n) (hv : cs[i]? = some v) (w : World) :
    (Instr.index T (.agg cs) (.int .i64 (i : Int))).run P w = .ok v w := by
  have h1 : 0 ≤ (i : Int) ∧ (i : Int) < (n : Int) := by omega
  cases hq : P.info? E with
  | none => simp [hq] at he
  | some q =>
    have hs : q.size = 1 := by simpa [hq] using he
    simp [Instr.index, asIntOf, Sem.run_bind, run_underlying hu, h1, sizeOf, typeInfo, hq, hs, part, hag, hv, hi]
/-- A new variable of an array type, all known. -/
theorem wpList_alloc_arr {w : World} {ops : Array Oper} {rest : List Oper} {o : Oper} {a : Act} {Q : Exit → Act → World → Prop} (hg : o.guard = none) (ty : TypeId) (ho : o.op = .alloc ty) (cs : Array Value)
    (hz : ∀ w : World, (zeroValue ty).run P w = .ok (.agg cs) w)
    (h : wpList P ops Q rest (a.put o.dst (.pointer (some ⟨w.heap.size, 0, none⟩))) (w.alloc (.cells cs ty))) : wpList P ops Q (o :: rest) a w := by
  refine wpList_plain hg fun K hK' => ?_
  unfold Oper.wp
  simp [execOp, ho, Instr.alloc, hz, newVar, newRow, Value.cells]
  exact hK' _ _ h
theorem results_row2 {fn : Func} {p u : Tmp} {ty : TypeId} (h : fn.results = #[.cell p ty, .tmp u]) (tmps : Array Value) (w : World) (g : Nat) (t : TypeId) (cs : Array Value) (d : TypeDesc)
    (hp : tmps.getD p undef = .pointer (some ⟨g, 0, none⟩)) (hg : Blk w g t cs)
    (hu : P.underlying ty = some d) (hd : (match d with | .struct _ | .array _ _ => true | _ => false) = true) (hi : (P.info? ty).map (·.size) = some cs.size) :
    (results fn tmps).run P w = .ok (.tuple #[.agg cs, tmps.getD u undef]) w := by
  have hr := run_loadVar_row (P := P) w g t ty cs (0, 0) d hg hu hd hi
  have hp' : tmps[p]?.getD undef = .pointer (some ⟨g, 0, none⟩) := by simpa using hp
  simp [results, h, hp', asAddr, hr]
end

/-! Places: the marked ones of 0 .. N. -/
def arB (N : Nat) (P : Nat → Bool) : Array Value := ((List.range (N + 1)).map (fun i => Value.bool (P i))).toArray
theorem arB_size (N : Nat) (P : Nat → Bool) : (arB N P).size = N + 1 := by simp [arB]
theorem arB_get (N : Nat) (P : Nat → Bool) (i : Nat) (h : i ≤ N) : (arB N P)[i]? = some (.bool (P i)) := by
  simp [arB, show i < N + 1 by omega]
theorem arB_ext (N : Nat) (P Q : Nat → Bool) (h : ∀ i, i ≤ N → P i = Q i) : arB N P = arB N Q := by
  unfold arB
  congr 1
  refine List.map_congr_left (fun i hi => ?_)
  rw [h i (by have := List.mem_range.1 hi; omega)]
def upd (P : Nat → Bool) (i : Nat) (x : Bool) : Nat → Bool := fun j => if j = i then x else P j
theorem arB_set (N : Nat) (P : Nat → Bool) (i : Nat) (x : Bool) (h : i ≤ N) : (arB N P).setIfInBounds i (.bool x) = arB N (upd P i x) := by
  unfold arB
  rw [List.setIfInBounds_toArray]
  congr 1
  refine List.ext_getElem (by simp) (fun j h1 h2 => ?_)
  rw [List.getElem_set]
  by_cases e : i = j
  · subst e; simp [upd]
  · simp [upd, e]; intro h; exact (e h.symm).elim
theorem arB_made (N : Nat) : madeCells #[.bool false] (N + 1) = arB N (fun _ => false) := by
  apply Array.ext
  · simp [madeCells, arB]
  · intro i h1 h2
    simp [madeCells, arB, Nat.mod_one]
theorem Blk.setB {w : World} {g : Nat} {t : TypeId} {N : Nat} {P : Nat → Bool} (h : Blk w g t (arB N P)) (i : Nat) (x : Bool) (hi : i ≤ N) : Blk (w.setCell ⟨g, i, none⟩ (.bool x)) g t (arB N (upd P i x)) := by
  rw [← arB_set N P i x hi]; exact h.set_ i _
theorem Blk.cellB {w : World} {g : Nat} {t : TypeId} {N : Nat} {P : Nat → Bool} (h : Blk w g t (arB N P)) (i : Nat) (hi : i ≤ N) : w.cell? ⟨g, i, none⟩ = some (.bool (P i)) := (h.cell i).trans (arB_get N P i hi)
theorem Blk.eqB {w : World} {g : Nat} {t : TypeId} {N : Nat} {P Q : Nat → Bool} (h : Blk w g t (arB N P)) (e : ∀ i, i ≤ N → P i = Q i) : Blk w g t (arB N Q) := by
  rw [← arB_ext N P Q e]; exact h
/-- The value of places. -/
abbrev pv (N g : Nat) : Value := .slice (some ⟨g, 0, none⟩) (N + 1) (N + 1)
/-- Those that are marked, rising. -/
def trues (N : Nat) (P : Nat → Bool) : List Nat := (List.range (N + 1)).filter P
end Go.Proofs.Ytimhiacjoplkeaa
