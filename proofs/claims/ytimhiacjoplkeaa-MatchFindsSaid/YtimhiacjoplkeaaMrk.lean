/- mark: its walk. Own text. -/
import Derived.Test.YtimhiacjoplkeaaPlc
namespace Go.Proofs.Ytimhiacjoplkeaa
open Go.RowKit Go.Shelf Go.Proofs.Ytimhiacjoplkeaa.P Go.Proofs.YtimhiacjoplkeaaW.PrintWords
attribute [local go_sem] Oper.semAt_some
set_option linter.unusedVariables false
set_option linter.unusedSimpArgs false

theorem ownFrom_blk {β : Type} (B g : Nat) (t : TypeId) (f : β → Array Value) : OwnFrom B (fun s W => Blk W g t (f s)) := fun s X Y row hs hg hr =>
  (hg.block g hs.lt (fun e => by
    obtain ⟨_, o, ho, hc⟩ := hr g e.symm
    rw [show X.heap[g]? = _ from hs] at ho; cases ho; cases hc)).trans hs
theorem grown_step {w W W' : World} {row row' : Option Nat} (h : w.grownBy W row) (h' : W.grownBy W' row') (hr : ∀ k, row' = some k → row = some k ∨ w.heap.size ≤ k) : w.grownBy W' row :=
  ⟨h'.os.trans h.os, h'.tape.trans h.tape, h'.output.trans h.output, Nat.le_trans h.size h'.size, fun k hk hne => (h'.block k (Nat.lt_of_lt_of_le hk h.size) (fun e => by
    rcases hr k e.symm with h1 | h1
    · exact hne h1.symm
    · omega)).trans (h.block k hk hne)⟩
theorem ownFrom_grown {β : Type} {w : World} {B : Nat} {row : Option Nat} (hB : w.heap.size ≤ B) : OwnFrom B (fun (_ : β) W => w.grownBy W row) := fun s X Y r hs hg hr =>
  grown_step hs hg (fun k e => .inr (Nat.le_trans hB (hr k e).1))
theorem grown_below {w W W' : World} {row : Option Nat} (h : w.grownBy W row) (hb : Below W.heap.size W W') : w.grownBy W' row := grown_step h (row' := none) ⟨hb.os, hb.tape, hb.output, hb.size, fun k hk _ => hb.block k hk⟩ (fun k e => by cases e)
theorem below_of_grown {w W : World} (h : w.grownBy W none) : Below w.heap.size w W := ⟨h.os, h.tape, h.output, h.size, fun k hk => h.block k hk (by simp)⟩
def orP (P Q : Nat → Bool) : Nat → Bool := fun j => P j || Q j
def hasP {N : Nat} {Q : Nat → Bool} (pre : List (PA N Q)) : Nat → Bool := fun j => pre.any (fun x => x.1 == j)
theorem hasP_snoc {N : Nat} {Q : Nat → Bool} (P : Nat → Bool) (pre : List (PA N Q)) (x : PA N Q) (j : Nat) : upd (orP P (hasP pre)) x.1 true j = orP P (hasP (pre ++ [x])) j := by
  simp only [upd, orP, hasP, List.any_append, List.any_cons, List.any_nil, Bool.or_false]
  by_cases e : j = x.1
  · simp [e]
  · rw [if_neg e, show (x.1 == j) = false from beq_eq_false_iff_ne.2 (fun h => e h.symm), Bool.or_false]
theorem hasP_full {N : Nat} {Q : Nat → Bool} (pre : List (PA N Q)) (h : pre.map (·.1) = trues N Q) (j : Nat) (hj : j ≤ N) : hasP pre j = Q j := by
  have e : hasP pre j = (pre.map (·.1)).any (fun x => x == j) := by simp [hasP, List.any_map, Function.comp_def]
  rw [e, h, trues]
  cases hq : Q j with
  | true => rw [List.any_eq_true]; exact ⟨j, by simp [hq]; omega, by simp⟩
  | false =>
    rw [List.any_eq_false]
    intro x hx he
    simp only [beq_iff_eq] at he
    subst he
    simp [hq] at hx
def freshP {N : Nat} {Q : Nat → Bool} (P : Nat → Bool) (pre : List (PA N Q)) : Bool := pre.any (fun x => !P x.1)
theorem freshP_snoc {N : Nat} {Q : Nat → Bool} (P : Nat → Bool) (pre : List (PA N Q)) (x : PA N Q) : (freshP P pre || !(orP P (hasP pre) x.1)) = freshP P (pre ++ [x]) := by
  simp only [freshP, orP, hasP, List.any_append, List.any_cons, List.any_nil, Bool.or_false]
  cases hp : P x.1 with
  | true => simp
  | false =>
    cases hh : pre.any (fun y => y.1 == x.1) with
    | false => simp
    | true =>
      obtain ⟨y, hy, he⟩ := List.any_eq_true.1 hh
      have : pre.any (fun x => !P x.1) = true := List.any_eq_true.2 ⟨y, hy, by rw [beq_iff_eq.1 he, hp]; rfl⟩
      rw [this]; rfl
/-- Is anything of Q new to P? -/
def anyNew (N : Nat) (P Q : Nat → Bool) : Bool := (trues N Q).any (fun i => !P i)
theorem freshP_full {N : Nat} {Q : Nat → Bool} (P : Nat → Bool) (pre : List (PA N Q)) (h : pre.map (·.1) = trues N Q) : freshP P pre = anyNew N P Q := by
  unfold anyNew; rw [← h, List.any_map]; rfl
theorem keep2_far {W : World} {h Bx g j : Nat} (h1 : g ≠ h) (h2 : g ≠ Bx) (u : Value) : Keep2 h Bx W (W.setCell ⟨g, j, none⟩ u) := ⟨by simp, Below.heap_setCell W ⟨g, j, none⟩ u h (fun e => h1 e.symm), Below.heap_setCell W ⟨g, j, none⟩ u Bx (fun e => h2 e.symm)⟩
theorem keep2_b {w : World} {h Bx : Nat} (hh : h < w.heap.size) (hx : Bx < w.heap.size) (W : World) (l : Nat) (o o' : Obj) (hl : w.heap.size ≤ l) (ho : W.heap[l]? = some o) (_ : o.isCells = false) (_ : o.isWalk = false) : Keep2 h Bx W (W.putObj l o') :=
  ⟨by simp, World.putObj_heap_other (by omega), World.putObj_heap_other (by omega)⟩
theorem grown_set (W : World) (g j : Nat) (u : Value) : W.grownBy (W.setCell ⟨g, j, none⟩ u) (some g) := ⟨rfl, rfl, rfl, by simp, fun k _ hk => Below.heap_setCell W ⟨g, j, none⟩ u k (fun e => hk (by rw [e]))⟩
set_option maxRecDepth 100000 in
set_option maxHeartbeats 2000000 in
theorem mark_c (g h N : Nat) (hN : N ≤ 1000000) (hgh : g ≠ h) (P Q : Nat → Bool) (w : World) (hg : Blk w g 4 (arB N P)) (hh : Blk w h 4 (arB N Q)) :
    Calls Try.prog 35 #[pv N g, pv N h] w fun e w' => e = .returned (.bool (anyNew N P Q)) ∧ Blk w' g 4 (arB N (orP P Q)) ∧ w.grownBy w' (some g) := by
  refine (callsIn_wide (n := 5)).1 ?_
  refine callsIn_of_wp_marks Try.func35 rfl trivial ?_ rfl
  simp only [Try.ntmps35, List.size_toArray, List.length_cons, List.length_nil, Nat.reduceAdd, Nat.reduceSub, Array.replicate_succ, Array.replicate_zero, List.push_toArray, List.append_toArray, List.nil_append, List.cons_append]
  have hglt := hg.lt
  have hhlt := hh.lt
  have hgH := Lib.hid hg
  have hhH := Lib.hid hh
  have hall := Lib.hid (fun w1 => all_c h N w1)
  clear hg hh
  have b1 := Boxed.new w 56 (pv N g)
  have b2 := Boxed.new (w.alloc (.cells #[pv N g] 56)) 4 (.bool false)
  have hB0 : Below w.heap.size w ((w.alloc (.cells #[pv N g] 56)).alloc (.cells #[.bool false] 4)) := below_alloc (below_alloc (Below.refl _ _) _) _
  replace b1 := b1.alloc (.cells #[.bool false] 4)
  rw [World.size_alloc] at b2
  have b1H := Lib.hid b1
  have b2H := Lib.hid b2
  have hB0H := Lib.hid hB0
  have hsz0 : ((w.alloc (.cells #[pv N g] 56)).alloc (.cells #[.bool false] 4)).heap.size = w.heap.size + 2 := by simp
  clear b1 b2 hB0
  gi_wp2_with (refine ⟨trivial, ?_⟩; gi_at_call 30; refine (callsIn_wide.2 (hall.out _)).mono ?_; rintro e w1 ⟨rfl, hb1, hB1⟩; have hb1H := Lib.hid hb1; have hB1H := Lib.hid hB1; clear hb1 hB1)
  generalize (w.alloc (.cells #[pv N g] 56)).alloc (.cells #[.bool false] 4) = W0 at *
  have hB2 : Below w.heap.size w w1 := by
    refine below_then hB0H.out hB0H.out.size hB1H.out
  have hB1' : Below (w.heap.size + 2) W0 w1 := by have := hB1H.out; rwa [hsz0] at this
  have c0 : Boxed w1 w.heap.size 56 (pv N g) := (hB1'.block _ (by omega)).trans b1H.out
  have c1 : Boxed w1 (w.heap.size + 1) 4 (.bool false) := (hB1'.block _ (by omega)).trans b2H.out
  have c2 : Boxed w1 (w.heap.size + 2) 56 (pv N h) := by have := hb1H.out; rwa [hsz0] at this
  have cg : Blk w1 g 4 (arB N P) := hgH.out.below hB2 hglt
  have ch : Blk w1 h 4 (arB N Q) := hhH.out.below hB2 hhlt
  have hgr1 : w.grownBy w1 (some g) := grown_below (row := some g) ⟨rfl, rfl, rfl, Nat.le_refl _, fun _ _ _ => rfl⟩ hB2
  have hsz1 : w.heap.size + 2 < w1.heap.size := c2.lt
  clear hb1H hB1H hB0H b1H b2H hsz0 hall hB1'
  refine wpIn_rangeFunc_ownG (n := 5) rfl (by omega) (gf := 38) (lb := #[.pointer (some ⟨w.heap.size + 2, 0, none⟩)]) rfl trivial (enters_of Try.func38 (by kernel_rfl) rfl)
    (all_stops (5 - 1) (by omega) (w.heap.size + 2) h N hN Q w1 c2 ch) keep2_t (keep2_b ch.lt hsz1) (Below.refl _ _) (fun _ => rfl)
    (fun pre W => Boxed W w.heap.size 56 (pv N g) ∧ Boxed W (w.heap.size + 1) 4 (.bool (freshP P pre)) ∧ Blk W g 4 (arB N (orP P (hasP pre))) ∧ w.grownBy W (some g))
    (fun _ _ _ => False)
    (OwnFrom.and (Own.from (boxed_own w.heap.size 56 (fun _ => pv N g)) _) (OwnFrom.and (Own.from (boxed_own (w.heap.size + 1) 4 (fun pre => .bool (freshP P pre))) _) (OwnFrom.and (ownFrom_blk _ g 4 (fun pre => arB N (orP P (hasP pre)))) (ownFrom_grown (by omega)))))
    (fun _ _ _ _ _ hs _ _ => hs)
    ⟨c0, c1, cg.eqB (fun i _ => by simp [orP, hasP]), hgr1⟩
    (fun x => { tmps := #[pv N g, pv N h, .pointer (some ⟨w.heap.size, 0, none⟩), undef, .bool false, .pointer (some ⟨w.heap.size + 1, 0, none⟩), .int .i64 (x.1 : Int), pv N h, .func (.func 38) #[] #[.pointer (some ⟨w.heap.size + 2, 0, none⟩)], .int .i64 (x.1 : Int), undef, undef, undef, undef, undef, undef, undef, undef, undef, undef, undef, undef], defers := [] })
    ?assign ?body ?done ?stop
  case assign =>
    intro l x W K hK
    simp only [encP]
    gi_wp2
    exact hK
  case body =>
    clear cg ch c0 c1 c2
    rintro l pre x W ⟨hx0, hx1, hr, hgr⟩ hlt
    have hc0 := hx0.cell
    have hc1 := hx1.cell
    have hf1 := hx1.frozen
    have hcr := hr.cellB x.1 x.2.1
    have hfr := hr.frozen x.1
    have hsn := Lib.hid (freshP_snoc P pre x)
    have hun := Lib.hid (fun j => hasP_snoc P pre x j)
    have hi0 : (0 : Int) ≤ (x.1 : Int) := by omega
    have hi1 : (x.1 : Int) < ((N + 1 : Nat) : Int) := by have := x.2.1; omega
    have hi2 : x.1 < N + 1 := by have := x.2.1; omega
    have hx0H := Lib.hid hx0
    have hx1H := Lib.hid hx1
    have hrH := Lib.hid hr
    have hgrH := Lib.hid hgr
    have hxN := x.2.1
    clear hx0 hx1 hr hgr
    have fin : ∀ u, u = (freshP P pre || !(orP P (hasP pre) x.1)) → KeepsFrom w1.heap.size W ((W.setCell ⟨w.heap.size + 1, 0, none⟩ (.bool u)).setCell ⟨g, x.1, none⟩ (.bool true)) ∧ Keep2 h (w.heap.size + 2) W ((W.setCell ⟨w.heap.size + 1, 0, none⟩ (.bool u)).setCell ⟨g, x.1, none⟩ (.bool true)) ∧
        Boxed ((W.setCell ⟨w.heap.size + 1, 0, none⟩ (.bool u)).setCell ⟨g, x.1, none⟩ (.bool true)) w.heap.size 56 (pv N g) ∧ Boxed ((W.setCell ⟨w.heap.size + 1, 0, none⟩ (.bool u)).setCell ⟨g, x.1, none⟩ (.bool true)) (w.heap.size + 1) 4 (.bool (freshP P (pre ++ [x]))) ∧
        Blk ((W.setCell ⟨w.heap.size + 1, 0, none⟩ (.bool u)).setCell ⟨g, x.1, none⟩ (.bool true)) g 4 (arB N (orP P (hasP (pre ++ [x])))) ∧ w.grownBy ((W.setCell ⟨w.heap.size + 1, 0, none⟩ (.bool u)).setCell ⟨g, x.1, none⟩ (.bool true)) (some g) := by
      intro u hu
      refine ⟨((KeepsOthers.setCell _ _ _).trans (KeepsOthers.setCell _ _ _)).from _, (keep2_far (by omega) (by omega) _).trans (keep2_far (by omega) (by omega) _), ?_, ?_, ?_, ?_⟩
      · exact Blk.far (p := ⟨g, x.1, none⟩) (Blk.far (p := ⟨w.heap.size + 1, 0, none⟩) hx0H.out (by simp only; omega) _) (by simp only; omega) _
      · rw [← hsn.out, ← hu]
        exact Blk.far (p := ⟨g, x.1, none⟩) (hx1H.out.set (.bool u)) (by simp only; omega) _
      · exact (Blk.setB (Blk.far (p := ⟨w.heap.size + 1, 0, none⟩) hrH.out (by simp only; omega) _) x.1 true hxN).eqB (fun j _ => hun.out j)
      · exact grown_step (grown_step hgrH.out (grown_set W (w.heap.size + 1) 0 _) (fun k e => by cases e; exact .inr (by omega))) (grown_set _ g x.1 _) (fun k e => .inl e)
    have finH := Lib.hid fin
    clear fin hx0H hx1H hrH hgrH
    generalize orP P (hasP pre) x.1 = z at *
    generalize freshP P pre = y at *
    cases y with
    | true =>
      gi_wp2
      exact finH.out _ (by simp)
    | false =>
      gi_wp2
      exact finH.out _ (by simp)
  case done =>
    rintro D ys W hD hys ⟨hx0, hx1, hr, hgr⟩ hK
    have hc1 := hx1.cell
    gi_wp2
    refine ⟨by simp, .inl ⟨_, _, rfl, run_takeDeferred hK, ?_⟩⟩
    refine ⟨_, results_tmp rfl _ _ _, by rw [← freshP_full P ys hys]; rfl, ?_, grown_step hgr (grownBy_putObj' W D _) (fun k e => by cases e; exact .inr (by omega))⟩
    have hr2 : Blk (W.putObj D (.deferred none)) g 4 (arB N (orP P (hasP ys))) := (World.putObj_heap_other (by omega)).trans hr
    exact hr2.eqB (fun j hj => by simp only [orP]; rw [hasP_full ys hys j hj])
  case stop =>
    rintro D c pre W _ _ hh _
    exact hh.elim
end Go.Proofs.Ytimhiacjoplkeaa
