/- Sets: With, Range, Has; nodes: Set, Many, Rep: walks. Own text. -/
import Derived.Test.YtimhiacjoplkeaaArr
import Derived.Lib.Hide
namespace Go.Proofs.Ytimhiacjoplkeaa
open Go.RowKit Go.Proofs.Ytimhiacjoplkeaa.P Go.Proofs.YtimhiacjoplkeaaW.PrintWords Go.Proofs.YtimhiacjoplkeaaW.PrintMore
set_option linter.unusedVariables false
set_option linter.unusedSimpArgs false
abbrev setV (s0 s1 s2 s3 : Int) : Value := .agg #[.int .u64 s0, .int .u64 s1, .int .u64 s2, .int .u64 s3]
/-- Element k, with byte b. -/
def wth (k : Nat) (x : Int) (b : Nat) : Int := if b / 64 = k then Go.bits .or .u64 x (IntKind.u64.wrap (2 ^ (b % 64))) else x
def selS (s0 s1 s2 s3 : Int) (b : Nat) : Int := if b / 64 = 0 then s0 else if b / 64 = 1 then s1 else if b / 64 = 2 then s2 else s3
def hasS (s0 s1 s2 s3 : Int) (b : Nat) : Bool := Go.bits .and .u64 (selS s0 s1 s2 s3 b) (IntKind.u64.wrap (2 ^ (b % 64))) != 0
set_option maxRecDepth 20000 in
theorem with_c (s0 s1 s2 s3 : Int) (b : Nat) (hb : b < 256) (w : World) :
    Calls Try.prog 24 #[setV s0 s1 s2 s3, .int .u8 (b : Int)] w fun e w' => e = .returned (setV (wth 0 s0 b) (wth 1 s1 b) (wth 2 s2 b) (wth 3 s3 b)) ∧ Below w.heap.size w w' := by
  have hi0 : (0 : Int) ≤ ((b / 64 : Nat) : Int) := by omega
  unfold wth
  rcases (by omega : b / 64 = 0 ∨ b / 64 = 1 ∨ b / 64 = 2 ∨ b / 64 = 3) with hk | hk | hk | hk
  · have hk2 : (b : Int) / 64 = 0 := by omega
    rw [hk]
    go_enter Try.func24, Try.ntmps24
    go_wp2
    refine bodyPost_ret (results_cell_row rfl _ _ (w.heap.size + 1) 25 _ (0, 0) _ rfl (by have h := heap_alloc_new (w.alloc (.cells #[.int .u64 (Go.bits .or .u64 s0 (IntKind.u64.wrap (2 ^ (b % 64)))), .int .u64 s1, .int .u64 s2, .int .u64 s3] 25)) (.cells #[.int .u64 (Go.bits .or .u64 s0 (IntKind.u64.wrap (2 ^ (b % 64)))), .int .u64 s1, .int .u64 s2, .int .u64 s3] 25); rw [World.size_alloc] at h; exact h) Try.underlying25 rfl rfl) rfl ?_
    exact ⟨rfl, below_alloc (below_alloc (Below.refl _ _) _) _⟩
  · have hk2 : (b : Int) / 64 = 1 := by omega
    rw [hk]
    go_enter Try.func24, Try.ntmps24
    go_wp2
    refine bodyPost_ret (results_cell_row rfl _ _ (w.heap.size + 1) 25 _ (0, 0) _ rfl (by have h := heap_alloc_new (w.alloc (.cells #[.int .u64 s0, .int .u64 (Go.bits .or .u64 s1 (IntKind.u64.wrap (2 ^ (b % 64)))), .int .u64 s2, .int .u64 s3] 25)) (.cells #[.int .u64 s0, .int .u64 (Go.bits .or .u64 s1 (IntKind.u64.wrap (2 ^ (b % 64)))), .int .u64 s2, .int .u64 s3] 25); rw [World.size_alloc] at h; exact h) Try.underlying25 rfl rfl) rfl ?_
    exact ⟨rfl, below_alloc (below_alloc (Below.refl _ _) _) _⟩
  · have hk2 : (b : Int) / 64 = 2 := by omega
    rw [hk]
    go_enter Try.func24, Try.ntmps24
    go_wp2
    refine bodyPost_ret (results_cell_row rfl _ _ (w.heap.size + 1) 25 _ (0, 0) _ rfl (by have h := heap_alloc_new (w.alloc (.cells #[.int .u64 s0, .int .u64 s1, .int .u64 (Go.bits .or .u64 s2 (IntKind.u64.wrap (2 ^ (b % 64)))), .int .u64 s3] 25)) (.cells #[.int .u64 s0, .int .u64 s1, .int .u64 (Go.bits .or .u64 s2 (IntKind.u64.wrap (2 ^ (b % 64)))), .int .u64 s3] 25); rw [World.size_alloc] at h; exact h) Try.underlying25 rfl rfl) rfl ?_
    exact ⟨rfl, below_alloc (below_alloc (Below.refl _ _) _) _⟩
  · have hk2 : (b : Int) / 64 = 3 := by omega
    rw [hk]
    go_enter Try.func24, Try.ntmps24
    go_wp2
    refine bodyPost_ret (results_cell_row rfl _ _ (w.heap.size + 1) 25 _ (0, 0) _ rfl (by have h := heap_alloc_new (w.alloc (.cells #[.int .u64 s0, .int .u64 s1, .int .u64 s2, .int .u64 (Go.bits .or .u64 s3 (IntKind.u64.wrap (2 ^ (b % 64))))] 25)) (.cells #[.int .u64 s0, .int .u64 s1, .int .u64 s2, .int .u64 (Go.bits .or .u64 s3 (IntKind.u64.wrap (2 ^ (b % 64))))] 25); rw [World.size_alloc] at h; exact h) Try.underlying25 rfl rfl) rfl ?_
    exact ⟨rfl, below_alloc (below_alloc (Below.refl _ _) _) _⟩
set_option maxRecDepth 20000 in
theorem has_c (s0 s1 s2 s3 : Int) (b : Nat) (hb : b < 256) (w : World) :
    Calls Try.prog 34 #[setV s0 s1 s2 s3, .int .u8 (b : Int)] w fun e w' => e = .returned (.bool (hasS s0 s1 s2 s3 b)) ∧ Below w.heap.size w w' := by
  unfold hasS selS
  rcases (by omega : b / 64 = 0 ∨ b / 64 = 1 ∨ b / 64 = 2 ∨ b / 64 = 3) with hk | hk | hk | hk
  · have hk2 : (b : Int) / 64 = 0 := by omega
    rw [hk]
    go_enter Try.func34, Try.ntmps34
    go_wp2
    go_ret
    exact ⟨rfl, below_alloc (Below.refl _ _) _⟩
  · have hk2 : (b : Int) / 64 = 1 := by omega
    rw [hk]
    go_enter Try.func34, Try.ntmps34
    go_wp2
    go_ret
    exact ⟨rfl, below_alloc (Below.refl _ _) _⟩
  · have hk2 : (b : Int) / 64 = 2 := by omega
    rw [hk]
    go_enter Try.func34, Try.ntmps34
    go_wp2
    go_ret
    exact ⟨rfl, below_alloc (Below.refl _ _) _⟩
  · have hk2 : (b : Int) / 64 = 3 := by omega
    rw [hk]
    go_enter Try.func34, Try.ntmps34
    go_wp2
    go_ret
    exact ⟨rfl, below_alloc (Below.refl _ _) _⟩
set_option maxRecDepth 20000 in
theorem set_c (s0 s1 s2 s3 : Int) (w : World) :
    Calls Try.prog 23 #[setV s0 s1 s2 s3] w fun e w' => e = .returned (ndVal (.mk 0 s0 s1 s2 s3 0 0 []) (.slice none 0 0)) ∧ Below w.heap.size w w' := by
  go_enter Try.func23, Try.ntmps23
  go_wp2
  refine bodyPost_ret (results_cell_row rfl _ _ (w.heap.size + 1) 28 _ (0, 0) _ rfl (by have h := heap_alloc_new (w.alloc (.cells #[.int .u64 s0, .int .u64 s1, .int .u64 s2, .int .u64 s3] 25)) (.cells #[.int .i64 0, .int .u64 s0, .int .u64 s1, .int .u64 s2, .int .u64 s3, .int .i64 0, .int .i64 0, .slice none 0 0] 28); rw [World.size_alloc] at h; exact h) Try.underlying28 rfl rfl) rfl ?_
  exact ⟨rfl, below_alloc (below_alloc (Below.refl _ _) _) _⟩
set_option maxRecDepth 20000 in
theorem many_c (op : Int) (A : Option Addr) (n c : Nat) (ks : List Nd) (w : World) :
    Calls Try.prog 15 #[.int .i64 op, .slice A n c] w fun e w' => e = .returned (ndVal (.mk op 0 0 0 0 0 0 ks) (.slice A n c)) ∧ Below w.heap.size w w' := by
  go_enter Try.func15, Try.ntmps15
  go_wp2
  refine bodyPost_ret (results_cell_row rfl _ _ w.heap.size 28 _ (0, 0) _ rfl (heap_alloc_new w _) Try.underlying28 rfl rfl) rfl ?_
  exact ⟨rfl, below_alloc (Below.refl _ _) _⟩
theorem heap3_1 (w : World) (X Y Z : Obj) : (((w.alloc X).alloc Y).alloc Z).heap[w.heap.size + 1]? = some Y := by
  refine (Below.heap_alloc _ _ _ (by simp)).trans ?_
  have h := heap_alloc_new (w.alloc X) Y
  rwa [World.size_alloc] at h
theorem heap3_2 (w : World) (X Y Z : Obj) : (((w.alloc X).alloc Y).alloc Z).heap[w.heap.size + 1 + 1]? = some Z := by
  have h := heap_alloc_new ((w.alloc X).alloc Y) Z
  rwa [World.size_alloc, World.size_alloc] at h
theorem IsN.cells {w : World} {n : Nd} {v : Value} (h : IsN w n v) : ∃ A c, v = ndVal n (.slice A n.kids.length c) ∧ NK w n (ndCells n (.slice A n.kids.length c)) := by
  obtain ⟨A, c, h1, h2, h3, h4⟩ := h
  refine ⟨A, c, h1, ?_⟩
  cases n with
  | mk op s0 s1 s2 s3 mn mx kids => unfold NK; exact ⟨A, c, rfl, h2, h3, h4⟩
theorem NKs_one {w : World} {n : Nd} {A : Option Addr} {c g : Nat} (h : NK w n (ndCells n (.slice A n.kids.length c))) (hb : Blk w g 28 (ndCells n (.slice A n.kids.length c)).toArray) : NKs w (some ⟨g, 0, none⟩) 0 [n] := by
  unfold NKs
  refine ⟨⟨_, _, rfl, h, fun j u hu => ?_⟩, by unfold NKs; trivial⟩
  rw [add_off0, hb.cell, Nat.zero_mul, Nat.zero_add]
  simpa using hu
theorem NKs_two {w : World} {n n' : Nd} {A A' : Option Addr} {c c' g : Nat} (h : NK w n (ndCells n (.slice A n.kids.length c))) (h' : NK w n' (ndCells n' (.slice A' n'.kids.length c')))
    (hb : Blk w g 28 (ndCells n (.slice A n.kids.length c) ++ ndCells n' (.slice A' n'.kids.length c')).toArray) : NKs w (some ⟨g, 0, none⟩) 0 [n, n'] := by
  unfold NKs
  refine ⟨⟨_, _, rfl, h, fun j u hu => ?_⟩, ?_⟩
  · rw [add_off0, hb.cell, Nat.zero_mul, Nat.zero_add]
    have hj := (List.getElem?_eq_some_iff.1 hu).1
    simp only [List.getElem?_toArray]
    rw [List.getElem?_append_left hj]; exact hu
  · unfold NKs
    refine ⟨⟨_, _, rfl, h', fun j u hu => ?_⟩, by unfold NKs; trivial⟩
    rw [add_off0, hb.cell]
    simp only [List.getElem?_toArray]
    rw [List.getElem?_append_right (by simp [ndCells])]
    have e : (0 + 1) * 8 + j - (ndCells n (.slice A n.kids.length c)).length = j := by simp [ndCells]
    rw [e]; exact hu
set_option maxRecDepth 20000 in
theorem rep_c (n : Nd) (v : Value) (lo hi : Int) (w : World) (h : IsN w n v) :
    Calls Try.prog 18 #[v, .int .i64 lo, .int .i64 hi] w fun e w' => ∃ v', e = .returned v' ∧ IsN w' (.mk 3 0 0 0 0 lo hi [n]) v' ∧ Below w.heap.size w w' := by
  obtain ⟨A, c, rfl, hk⟩ := h.cells
  have hkH := Lib.hid hk
  clear hk h
  obtain ⟨m, hm⟩ : ∃ m, m = n.kids.length := ⟨_, rfl⟩
  rw [← hm] at hkH ⊢
  have hmH := Lib.hid hm
  clear hm
  go_enter Try.func18, Try.ntmps18
  go_wp2
  have hb : Below w.heap.size w _ := below_alloc (below_alloc (below_alloc (Below.refl w.heap.size w) (.cells #[.int .i64 n.op, .int .u64 n.s0, .int .u64 n.s1, .int .u64 n.s2, .int .u64 n.s3, .int .i64 n.mn, .int .i64 n.mx, .slice A m c] 28)) (.cells #[.int .i64 3, .int .u64 0, .int .u64 0, .int .u64 0, .int .u64 0, .int .i64 lo, .int .i64 hi, .slice (some ⟨w.heap.size + 1 + 1, 0, none⟩) 1 1] 28)) (.cells #[.int .i64 n.op, .int .u64 n.s0, .int .u64 n.s1, .int .u64 n.s2, .int .u64 n.s3, .int .i64 n.mn, .int .i64 n.mx, .slice A m c] 28)
  have h1 := heap3_1 w (.cells #[.int .i64 n.op, .int .u64 n.s0, .int .u64 n.s1, .int .u64 n.s2, .int .u64 n.s3, .int .i64 n.mn, .int .i64 n.mx, .slice A m c] 28) (.cells #[.int .i64 3, .int .u64 0, .int .u64 0, .int .u64 0, .int .u64 0, .int .i64 lo, .int .i64 hi, .slice (some ⟨w.heap.size + 1 + 1, 0, none⟩) 1 1] 28) (.cells #[.int .i64 n.op, .int .u64 n.s0, .int .u64 n.s1, .int .u64 n.s2, .int .u64 n.s3, .int .i64 n.mn, .int .i64 n.mx, .slice A m c] 28)
  have h2 := heap3_2 w (.cells #[.int .i64 n.op, .int .u64 n.s0, .int .u64 n.s1, .int .u64 n.s2, .int .u64 n.s3, .int .i64 n.mn, .int .i64 n.mx, .slice A m c] 28) (.cells #[.int .i64 3, .int .u64 0, .int .u64 0, .int .u64 0, .int .u64 0, .int .i64 lo, .int .i64 hi, .slice (some ⟨w.heap.size + 1 + 1, 0, none⟩) 1 1] 28) (.cells #[.int .i64 n.op, .int .u64 n.s0, .int .u64 n.s1, .int .u64 n.s2, .int .u64 n.s3, .int .i64 n.mn, .int .i64 n.mx, .slice A m c] 28)

  refine bodyPost_ret (results_cell_row rfl _ _ (w.heap.size + 1) 28 _ (0, 0) _ rfl h1 Try.underlying28 rfl rfl) rfl ?_
  refine ⟨_, rfl, ⟨some ⟨w.heap.size + 1 + 1, 0, none⟩, 1, rfl, Nat.le_refl _, by simp [Nd.kids], ?_⟩, hb⟩
  have hm := hmH.out
  subst hm
  exact NKs_one (NK_below hb _ _ hkH.out) h2
end Go.Proofs.Ytimhiacjoplkeaa
