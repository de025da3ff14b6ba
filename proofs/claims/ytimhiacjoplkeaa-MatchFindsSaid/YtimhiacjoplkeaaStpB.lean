/- step: the cases of a set, of And and Not; the whole of it. Own text (printed by wip/c04/gen_stp.py). -/
import Derived.Test.YtimhiacjoplkeaaStpA
namespace Go.Proofs.Ytimhiacjoplkeaa
open Go.RowKit Go.Shelf Go.Proofs.Ytimhiacjoplkeaa.P Go.Proofs.YtimhiacjoplkeaaW.PrintWords Go.Proofs.YtimhiacjoplkeaaW.PrintLast
attribute [local go_sem] Oper.semAt_some
set_option linter.unusedVariables false
set_option linter.unusedSimpArgs false
theorem ownFrom_size {β : Type} (B n : Nat) : OwnFrom B (fun (_ : β) W => n ≤ W.heap.size) := fun _ _ _ _ hs hg _ => Nat.le_trans hs hg.size
theorem keeps_below {W W' : World} (hb : Below W.heap.size W W') : KeepsOthers W W' := ⟨hb.size, fun k o hk _ => (hb.block k (Array.getElem?_eq_some_iff.1 hk).1).trans hk⟩
theorem keeps_grown {W W' : World} {g : Nat} {t : TypeId} {cs : Array Value} (hg : W.grownBy W' (some g)) (hb : Blk W g t cs) : KeepsOthers W W' := KeepsOthers.of_grownBy hg (fun j o e ho => by
  injection e with e
  subst e
  rw [show W.heap[g]? = _ from hb] at ho; cases ho; rfl)
theorem keep2_below {W W' : World} {h Bx : Nat} (hh : h < W.heap.size) (hx : Bx < W.heap.size) (hb : Below W.heap.size W W') : Keep2 h Bx W W' := ⟨hb.size, hb.block _ hh, hb.block _ hx⟩
theorem keep2_grown {W W' : World} {h Bx g : Nat} (hh : h < W.heap.size) (hx : Bx < W.heap.size) (h1 : h ≠ g) (h2 : Bx ≠ g) (hg : W.grownBy W' (some g)) : Keep2 h Bx W W' := ⟨hg.size, hg.block _ hh (fun e => h1 (by injection e)), hg.block _ hx (fun e => h2 (by injection e))⟩
/-- The law of a range over a function whose assignment fills one slot out of another. -/
theorem rangeG {P : Program} {n : Nat} {α : Type} {g : Operand} {ps : Array Tmp} {assign body : Code} {Q : Exit → Act → World → Prop} {a : Act} {w : World} (p q : Tmp) (h1 : 1 ≤ n) {gf : Nat} {lb : Array Value} (hg : a.eval g = .func (.func gf) #[] lb) (eg : ∀ args w, (callFunc gf args).run P w = .ok (.enter gf args) w)
    {encs : α → Array Value} {Kp : World → World → Prop} {S Sp : List α → Prop} {N : Nat} {w0 : World} (hseq : SeqStopsK Fence.wide (n - 1) P gf lb encs Kp S Sp N w0)
    (hKt : ∀ {A B C : World}, Kp A B → Kp B C → Kp A C) (hKb : ∀ (W : World) (l : Nat) (o o' : Obj), w.heap.size ≤ l → W.heap[l]? = some o → o.isCells = false → o.isWalk = false → Kp W (W.putObj l o')) (hb0 : Below w0.heap.size w0 w) (hps : ∀ x, (encs x).size = ps.size)
    (I : List α → World → Prop) (hI : OwnFrom w.heap.size I) (h0 : I [] w) (en : α → Value)
    (hassign : ∀ (l : Nat) (x : α) (W : World) (K : Act → World → Prop), K { tmps := (a.tmps.setIfInBounds p (en x)).setIfInBounds q (en x), defers := [] } W →
      assign.wpIn (Fence.wide.inRound l) (n - 1 - 1) P (Exit.then K (fun _ _ _ => False)) { tmps := (ps.zip (encs x)).foldl (fun t (p, v) => t.setIfInBounds p v) a.tmps, defers := [] } W)
    (hbody : ∀ (l : Nat) (pre : List α) (x : α) (W : World), I pre W → pre.length < N → body.wpIn (Fence.wide.inRound l) (n - 1 - 1) P (ownPostG w.heap.size Kp I (fun _ _ _ => False) (pre ++ [x]) W) { tmps := (a.tmps.setIfInBounds p (en x)).setIfInBounds q (en x), defers := [] } W)
    (hdone : ∀ (D : Nat) (xs : List α) (W : World), w.heap.size ≤ D → S xs → I xs W → W.heap[D]? = some (.deferred (some [])) → Q .normal { a with defers := { target := .collected D, args := #[] } :: a.defers } W) :
    (Code.rangeFunc g ps assign body).wpIn Fence.wide n P Q a w :=
  wpIn_rangeFunc_ownG rfl h1 hg trivial eg hseq hKt hKb hb0 hps I (fun _ _ _ => False) hI (fun _ _ _ _ _ hs _ _ => hs) h0 (fun x => { tmps := (a.tmps.setIfInBounds p (en x)).setIfInBounds q (en x), defers := [] }) hassign hbody hdone (fun _ _ _ _ _ _ h _ => h.elim)
/-- What a set has marked behind so many places. -/
def setP (s : ByteArray) (s0 s1 s2 s3 : Int) {N : Nat} {P : Nat → Bool} (pre : List (PA N P)) : Nat → Bool := fun j => pre.any (fun x => x.1 + 1 == j && decide (x.1 < s.size) && hasS s0 s1 s2 s3 (byteN s x.1))
theorem setP_snoc (s : ByteArray) (s0 s1 s2 s3 : Int) {N : Nat} {P : Nat → Bool} (pre : List (PA N P)) (x : PA N P) (j : Nat) : setP s s0 s1 s2 s3 (pre ++ [x]) j = (setP s s0 s1 s2 s3 pre j || (x.1 + 1 == j && decide (x.1 < s.size) && hasS s0 s1 s2 s3 (byteN s x.1))) := by
  simp [setP]
theorem any_pre {N : Nat} {P : Nat → Bool} (ys : List (PA N P)) (hys : ys.map (·.1) = trues N P) (q : Nat → Bool) : ys.any (fun x => q x.1) = (trues N P).any q := by
  rw [← hys, List.any_map]; rfl
theorem any_trues {N : Nat} {P : Nat → Bool} (q : Nat → Bool) : (trues N P).any q = true ↔ ∃ i, i ≤ N ∧ P i = true ∧ q i = true := by
  rw [List.any_eq_true]
  constructor
  · rintro ⟨i, h1, h2⟩
    obtain ⟨h3, h4⟩ := mem_trues.1 h1
    exact ⟨i, h3, h4, h2⟩
  · rintro ⟨i, h1, h2, h3⟩
    exact ⟨i, mem_trues.2 ⟨h1, h2⟩, h3⟩
theorem setP_full (s : ByteArray) (s0 s1 s2 s3 mn mx : Int) (ks : List Nd) {P : Nat → Bool} (ys : List (PA s.size P)) (hys : ys.map (·.1) = trues s.size P) (j : Nat) (hj : j ≤ s.size) : setP s s0 s1 s2 s3 ys j = stp s (.mk 0 s0 s1 s2 s3 mn mx ks) P j := by
  unfold setP stp
  rw [any_pre ys hys (fun i => i + 1 == j && decide (i < s.size) && hasS s0 s1 s2 s3 (byteN s i)), if_pos rfl]
  refine bool_ext ?_
  rw [any_trues]
  simp only [Bool.and_eq_true, decide_eq_true_eq, beq_iff_eq]
  constructor
  · rintro ⟨i, h1, h2, ⟨h3, h4⟩, h5⟩
    subst h3
    rw [Nat.add_sub_cancel]
    exact ⟨⟨⟨by omega, by omega⟩, h2⟩, h5⟩
  · rintro ⟨⟨⟨h1, h2⟩, h3⟩, h4⟩
    exact ⟨j - 1, by omega, h3, ⟨by omega, by omega⟩, h4⟩
def anyP (s : ByteArray) (neg : Bool) (ks : List Nd) {N : Nat} {P : Nat → Bool} (pre : List (PA N P)) : Nat → Bool := fun j => pre.any (fun x => apP s neg ks x.1 j)
theorem anyP_snoc (s : ByteArray) (neg : Bool) (ks : List Nd) {N : Nat} {P : Nat → Bool} (pre : List (PA N P)) (x : PA N P) (j : Nat) : orP (anyP s neg ks pre) (apP s neg ks x.1) j = anyP s neg ks (pre ++ [x]) j := by
  simp [anyP, orP]
theorem anyP_full (s : ByteArray) (op s0 s1 s2 s3 mn mx : Int) (ks : List Nd) (h0 : op ≠ 0) (h1 : op ≠ 1) (h2 : op ≠ 2) (h3 : op ≠ 3) {P : Nat → Bool} (ys : List (PA s.size P)) (hys : ys.map (·.1) = trues s.size P) (j : Nat) (hj : j ≤ s.size) : anyP s (decide (op = 5)) ks ys j = stp s (.mk op s0 s1 s2 s3 mn mx ks) P j := by
  unfold anyP stp
  rw [any_pre ys hys (fun i => apP s (decide (op = 5)) ks i j), if_neg h0, if_neg h1, if_neg h2, if_neg h3]
  refine bool_ext ?_
  rw [any_trues]
  simp only [List.any_eq_true, List.mem_range, Bool.and_eq_true, decide_eq_true_eq, apP]
  constructor
  · rintro ⟨i, h4, h5, h6, h7⟩
    exact ⟨i, by omega, h5, hj, h7⟩
  · rintro ⟨i, h4, h5, h6, h7⟩
    exact ⟨i, by omega, h5, by omega, h7⟩
set_option maxRecDepth 100000 in
set_option maxHeartbeats 4000000 in
theorem step_set (s : ByteArray) (hs : s.size ≤ 1000000) (op s0 s1 s2 s3 mn mx : Int) (ks : List Nd) (hk : ∀ k ∈ ks, StepOk s k) (hop : op = 0) : StepOk s (.mk op s0 s1 s2 s3 mn mx ks) := by
  intro w v h P hn hP hr
  obtain ⟨A, c, rfl, hc, hlen, hK⟩ := hn
  simp only [op_mk, s0_mk, s1_mk, s2_mk, s3_mk, mn_mk, mx_mk, kids_mk] at hc hlen hK ⊢
  subst hop
  have hst := Lib.hid (fun (ys : List (PA s.size P)) (hys : ys.map (·.1) = trues s.size P) j hj => setP_full s s0 s1 s2 s3 mn mx ks ys hys j hj)
  have hhas := Lib.hid (fun (b : Nat) (hb : b < 256) w1 => has_c s0 s1 s2 s3 b hb w1)
  have hKH := Lib.hid hK
  have hkH := Lib.hid hk
  have hPH := Lib.hid hP
  have hrH := Lib.hid hr
  have hnone := Lib.hid (fun w1 => none_c s hs w1)
  have hmark := Lib.hid (fun g h hgh P Q w hg hh => mark_c g h s.size hs hgh P Q w hg hh)
  have hall := Lib.hid (fun w1 => all_c h s.size w1)
  have hfull := Lib.hid (List.take_length (l := ks))
  have hhlt := hr.lt
  clear hK hk hP hr
  show Calls Try.prog 28 #[.string s, .agg (boxC 0 s0 s1 s2 s3 mn mx (.slice A ks.length c)), pv s.size h] w _
  refine (callsIn_wide (n := 6)).1 ?_
  refine callsIn_of_wp_marks Try.func28 rfl trivial ?_ rfl
  refine wpIn_wide.2 ?_
  simp only [Try.ntmps28, List.size_toArray, List.length_cons, List.length_nil, Nat.reduceAdd, Nat.reduceSub, Array.replicate_succ, Array.replicate_zero, List.push_toArray, List.append_toArray, List.nil_append, List.cons_append]
  have z0 := Lib.hid (show Boxed ((w.alloc (.cells #[.string s] 51)).alloc (.cells (boxC 0 s0 s1 s2 s3 mn mx (.slice A ks.length c)) 28)) w.heap.size 51 (.string s) from (Boxed.new w 51 _).alloc _)
  have z1 := Lib.hid (show Blk ((w.alloc (.cells #[.string s] 51)).alloc (.cells (boxC 0 s0 s1 s2 s3 mn mx (.slice A ks.length c)) 28)) (w.heap.size + 1) 28 (boxC 0 s0 s1 s2 s3 mn mx (.slice A ks.length c)) from by have h := Blk.new (w.alloc (.cells #[.string s] 51)) 28 (boxC 0 s0 s1 s2 s3 mn mx (.slice A ks.length c)); rwa [World.size_alloc] at h)
  have zB := Lib.hid (below_alloc (below_alloc (Below.refl w.heap.size w) (.cells #[.string s] 51)) (.cells (boxC 0 s0 s1 s2 s3 mn mx (.slice A ks.length c)) 28))
  have zs : ((w.alloc (.cells #[.string s] 51)).alloc (.cells (boxC 0 s0 s1 s2 s3 mn mx (.slice A ks.length c)) 28)).heap.size = w.heap.size + 2 := by simp
  have zc : ((w.alloc (.cells #[.string s] 51)).alloc (.cells (boxC 0 s0 s1 s2 s3 mn mx (.slice A ks.length c)) 28)).cell? ⟨w.heap.size, 0, none⟩ = some (.string s) := z0.out.cell
  go_upto_region 1 with (fail)
  generalize (w.alloc (.cells #[.string s] 51)).alloc (.cells (boxC 0 s0 s1 s2 s3 mn mx (.slice A ks.length c)) 28) = W0 at *
  go_upto_region 2 with (go_at_call 33; refine (hnone.out _).mono ?_; rintro e w2 ⟨rfl, hb2, hB2⟩; have hE2 := Lib.hid hb2; have hB2H := Lib.hid hB2; clear hb2 hB2)
  replace hE2 : Hid (Blk w2 (w.heap.size + 2) 4 (arB s.size (fun _ => false))) := Lib.hid (by have := hE2.out; rwa [zs] at this)
  have hB2' := hB2H.out
  rw [zs] at hB2'
  have y0 := Lib.hid (show Boxed (w2.alloc (.cells #[pv s.size (w.heap.size + 2)] 56)) w.heap.size 51 (.string s) from Boxed.alloc ((hB2'.block _ (by omega)).trans z0.out) _)
  have y1 := Lib.hid (show Blk (w2.alloc (.cells #[pv s.size (w.heap.size + 2)] 56)) (w.heap.size + 1) 28 (boxC 0 s0 s1 s2 s3 mn mx (.slice A ks.length c)) from Blk.alloc ((hB2'.block _ (by omega)).trans z1.out) _)
  have y2 := Lib.hid (hE2.out.alloc (.cells #[pv s.size (w.heap.size + 2)] 56))
  have y3 := Lib.hid (Boxed.new w2 56 (pv s.size (w.heap.size + 2)))
  have hBw := below_then zB.out zB.out.size hB2H.out
  have yB := Lib.hid (below_alloc hBw (.cells #[pv s.size (w.heap.size + 2)] 56))
  have yh := Lib.hid ((hrH.out.below hBw hhlt).alloc (.cells #[pv s.size (w.heap.size + 2)] 56))
  have hb7 : w.heap.size + 2 < w2.heap.size := hE2.out.lt
  have ysz : w2.heap.size < (w2.alloc (.cells #[pv s.size (w.heap.size + 2)] 56)).heap.size := y3.out.lt
  have yc : (w2.alloc (.cells #[pv s.size (w.heap.size + 2)] 56)).cell? ⟨w.heap.size + 1, 0, none⟩ = some (.int .i64 0) := y1.out.cell 0
  clear z0 z1 zB zc hE2 hB2H hB2' hBw hrH zs
  generalize w2.alloc (.cells #[pv s.size (w.heap.size + 2)] 56) = W at *
  generalize w2.heap.size = b7 at *
  have yle : w.heap.size ≤ W.heap.size := by omega
  have yne : w.heap.size + 2 ≠ h := by omega
  have yle2 : w.heap.size ≤ w.heap.size + 2 := by omega
  have yo := y3.out.cell
  go_wp2_with (go_at_call 30; refine (hall.out _).mono ?_; rintro e w3 ⟨rfl, hb3, hB3⟩; have x0 := Lib.hid (show Boxed w3 w.heap.size 51 (.string s) from (hB3.block _ y0.out.lt).trans y0.out); have x1 := Lib.hid (y1.out.below hB3 y1.out.lt); have x2 := Lib.hid (y2.out.below hB3 y2.out.lt); have x3 := Lib.hid (show Boxed w3 b7 56 (pv s.size (w.heap.size + 2)) from (hB3.block _ y3.out.lt).trans y3.out); have xB := Lib.hid (below_then yB.out yle hB3); have xh := Lib.hid (yh.out.below hB3 yh.out.lt); have xb := Lib.hid hb3; have xlt := y3.out.lt; clear hB3 hb3)
  clear yc y0 y1 y2 y3 yB yh hall hnone yo ysz yle
  have xbl := xb.out.lt
  generalize W.heap.size = bx at *
  refine (wpIn_wide (n := 6)).1 ?_
  refine rangeG (n := 6) 31 8 (by omega) (gf := 38) (lb := #[.pointer (some ⟨bx, 0, none⟩)]) rfl (enters_of Try.func38 (by kernel_rfl) rfl)
    (all_stops (6 - 1) (by omega) bx h s.size hs P w3 xb.out xh.out) keep2_t (keep2_b xh.out.lt xbl) (Below.refl _ _) (fun _ => rfl)
    (fun pre W => Boxed W w.heap.size 51 (.string s) ∧ Blk W (w.heap.size + 1) 28 (boxC 0 s0 s1 s2 s3 mn mx (.slice A ks.length c)) ∧ Boxed W b7 56 (pv s.size (w.heap.size + 2)) ∧ Blk W (w.heap.size + 2) 4 (arB s.size (setP s s0 s1 s2 s3 pre)) ∧ Below w.heap.size w W ∧ w3.heap.size ≤ W.heap.size)
    (OwnFrom.and (Own.from (boxed_own w.heap.size 51 (fun _ => .string s)) _) (OwnFrom.and (ownFrom_blk _ (w.heap.size + 1) 28 (fun _ => (boxC 0 s0 s1 s2 s3 mn mx (.slice A ks.length c)))) (OwnFrom.and (Own.from (boxed_own b7 56 (fun _ => pv s.size (w.heap.size + 2))) _) (OwnFrom.and (ownFrom_blk _ (w.heap.size + 2) 4 (fun pre => arB s.size (setP s s0 s1 s2 s3 pre))) (OwnFrom.and (ownFrom_below (Nat.le_refl _) xB.out.size) (ownFrom_size _ _))))))
    ⟨x0.out, x1.out, x3.out, x2.out.eqB (fun i _ => by simp [setP]), xB.out, Nat.le_refl _⟩
    (fun x => .int .i64 (x.1 : Int)) ?assign ?body ?done
  case assign =>
    intro l x W K hK
    simp only [encP]
    gi_wp2
    exact hK
  case body =>
    rintro l pre x V ⟨v0, v1, v2, v3, vB, vS⟩ hlt
    simp only [List.setIfInBounds_toArray, List.set_cons_zero, List.set_cons_succ]
    have hxN := x.2.1
    have v0H := Lib.hid v0
    have v1H := Lib.hid v1
    have v2H := Lib.hid v2
    have v3H := Lib.hid v3
    have vBH := Lib.hid vB
    have hi0 : (0 : Int) ≤ (x.1 : Int) := by omega
    have hxV := Lib.hid (show bx < V.heap.size from Nat.lt_of_lt_of_le xbl vS)
    have hhV := Lib.hid (show h < V.heap.size from Nat.lt_of_lt_of_le hhlt vB.size)
    clear v0 v1 v2 v3 vB
    by_cases hin : x.1 < s.size
    · have hd1 : decide ((x.1 : Int) < (s.size : Int)) = true := decide_eq_true (by omega)
      have hin1 : (x.1 : Int) < (s.size : Int) := by omega
      have hin' : decide (x.1 < s.size) = true := decide_eq_true hin
      have hbt : (s[x.1]'hin).toNat = byteN s x.1 := by unfold byteN; rw [List.getD_eq_getElem?_getD, List.getElem?_eq_getElem (by simpa using hin)]; rfl
      have hbtH := Lib.hid hbt
      clear hbt
      gi_wp2_with (fail)
      refine startIn_ (n := 12) (S := (fun w' => w'.cell? ⟨w.heap.size, 0, none⟩ = some (.string s) ∧ w'.cell? ⟨w.heap.size + 1, 1, none⟩ = some (.int .u64 s0) ∧ w'.cell? ⟨w.heap.size + 1, 2, none⟩ = some (.int .u64 s1) ∧ w'.cell? ⟨w.heap.size + 1, 3, none⟩ = some (.int .u64 s2) ∧ w'.cell? ⟨w.heap.size + 1, 4, none⟩ = some (.int .u64 s3))) (ds := []) #[false, false, false, false, false, false, false, false, false, false, false, false] (by kernel_rfl) (by kernel_rfl) (fun ⟨_, _, h_⟩ => h_) rfl rfl ?_ (fun hHeld => ?_)
      · exact ⟨v0H.out.cell, v1H.out.cell 1, v1H.out.cell 2, v1H.out.cell 3, v1H.out.cell 4⟩
      have vB1 := Lib.hid (below_drew1 (Below.refl V.heap.size V))
      generalize V.drew = V1 at *
      refine pure_ (i := 0) (N := (some 32)) (v := ?_) (a' := ?_) #[true, false, false, false, false, false, false, false, false, false, false, false] rfl rfl (by kernel_rfl) (fun _ _ _ h => h) (Or.inl ⟨by rfl, ?_⟩) ?_ ?_
      rotate_left
      · intro w'
        go_simp
        with_reducible rfl
      rotate_left
      · simp only [Act.put, List.setIfInBounds_toArray, List.set_cons_zero, List.set_cons_succ, i64_w, i32_w]
        rfl
      refine take_ (i := 1) (N := (some 33)) (v := ?_) (a' := ?_) #[true, true, false, false, false, false, false, false, false, false, false, false] rfl rfl (by kernel_rfl) (fun _ _ _ h => h) (Or.inl ⟨by rfl, ?_⟩) hHeld ?_ ?_
      rotate_left
      · intro w' ⟨e0, e1, e2, e3, e4⟩
        go_simp
        with_reducible rfl
      rotate_left
      · simp only [Act.put, List.setIfInBounds_toArray, List.set_cons_zero, List.set_cons_succ, i64_w, i32_w]
        rfl
      refine pure_ (i := 2) (N := (some 34)) (v := ?_) (a' := ?_) #[true, true, true, false, false, false, false, false, false, false, false, false] rfl rfl (by kernel_rfl) (fun _ _ _ h => h) (Or.inl ⟨by rfl, ?_⟩) ?_ ?_
      rotate_left
      · intro w'
        go_simp
        with_reducible rfl
      rotate_left
      · simp only [Act.put, List.setIfInBounds_toArray, List.set_cons_zero, List.set_cons_succ, i64_w, i32_w]
        rfl
      refine pure_ (i := 3) (N := (some 35)) (v := ?_) (a' := ?_) #[true, true, true, true, false, false, false, false, false, false, false, false] rfl rfl (by kernel_rfl) (fun _ _ _ h => h) (Or.inl ⟨by rfl, ?_⟩) ?_ ?_
      rotate_left
      · intro w'
        go_simp
        with_reducible rfl
      rotate_left
      · simp only [Act.put, List.setIfInBounds_toArray, List.set_cons_zero, List.set_cons_succ, i64_w, i32_w]
        rfl
      refine pure_ (i := 4) (N := (some 36)) (v := ?_) (a' := ?_) #[true, true, true, true, true, false, false, false, false, false, false, false] rfl rfl (by kernel_rfl) (fun _ _ _ h => h) (Or.inl ⟨by rfl, ?_⟩) ?_ ?_
      rotate_left
      · intro w'
        go_simp
        with_reducible rfl
      rotate_left
      · simp only [Act.put, List.setIfInBounds_toArray, List.set_cons_zero, List.set_cons_succ, i64_w, i32_w]
        rfl
      refine pure_ (i := 5) (N := (some 37)) (v := ?_) (a' := ?_) #[true, true, true, true, true, true, false, false, false, false, false, false] rfl rfl (by kernel_rfl) (fun _ _ _ h => h) (Or.inl ⟨by rfl, ?_⟩) ?_ ?_
      rotate_left
      · intro w'
        go_simp
        with_reducible rfl
      rotate_left
      · simp only [Act.put, List.setIfInBounds_toArray, List.set_cons_zero, List.set_cons_succ, i64_w, i32_w]
        rfl
      refine take_ (i := 6) (N := (some 38)) (v := ?_) (a' := ?_) #[true, true, true, true, true, true, true, false, false, false, false, false] rfl rfl (by kernel_rfl) (fun _ _ _ h => h) (Or.inl ⟨by rfl, ?_⟩) hHeld ?_ ?_
      rotate_left
      · intro w' ⟨e0, e1, e2, e3, e4⟩
        go_simp
        with_reducible rfl
      rotate_left
      · simp only [Act.put, List.setIfInBounds_toArray, List.set_cons_zero, List.set_cons_succ, i64_w, i32_w]
        rfl
      refine take_ (i := 7) (N := (some 39)) (v := ?_) (a' := ?_) #[true, true, true, true, true, true, true, true, false, false, false, false] rfl rfl (by kernel_rfl) (fun _ _ _ h => h) (Or.inl ⟨by rfl, ?_⟩) hHeld ?_ ?_
      rotate_left
      · intro w' ⟨e0, e1, e2, e3, e4⟩
        go_simp
        with_reducible rfl
      rotate_left
      · simp only [Act.put, List.setIfInBounds_toArray, List.set_cons_zero, List.set_cons_succ, i64_w, i32_w]
        rfl
      refine pure_ (i := 8) (N := (some 40)) (v := ?_) (a' := ?_) #[true, true, true, true, true, true, true, true, true, false, false, false] rfl rfl (by kernel_rfl) (fun _ _ _ h => h) (Or.inl ⟨by rfl, ?_⟩) ?_ ?_
      rotate_left
      · intro w'
        go_simp
        with_reducible rfl
      rotate_left
      · simp only [Act.put, List.setIfInBounds_toArray, List.set_cons_zero, List.set_cons_succ, i64_w, i32_w]
        rfl
      refine pure_ (i := 9) (N := (some 41)) (v := ?_) (a' := ?_) #[true, true, true, true, true, true, true, true, true, true, false, false] rfl rfl (by kernel_rfl) (fun _ _ _ h => h) (Or.inl ⟨by rfl, ?_⟩) ?_ ?_
      rotate_left
      · intro w'
        go_simp
        with_reducible rfl
      rotate_left
      · simp only [Act.put, List.setIfInBounds_toArray, List.set_cons_zero, List.set_cons_succ, i64_w, i32_w]
        rfl
      refine one_ (i := 10) (N := (some 42)) #[true, true, true, true, true, true, true, true, true, true, true, false] rfl rfl (by kernel_rfl) (by decide) (fun K hK => ?_)
      refine goes_ Try.func34 (by kernel_rfl) rfl #[setV s0 s1 s2 s3, .int .u8 (((s[x.1]'hin).toNat : Nat) : Int)] (by rfl) rfl rfl (by simp only [List.map_toArray, List.map_cons, List.map_nil]; rfl) ?_
      refine (hhas.out _ (UInt8.toNat_lt _) _).mono ?_
      rintro e V2 ⟨rfl, hV2⟩
      refine ⟨_, rfl, ?_⟩
      have vB2 := Lib.hid (below_then vB1.out vB1.out.size hV2)
      refine hK.out _ _ ⟨(vB2.out.block _ v0H.out.lt).trans v0H.out |> Boxed.cell, (v1H.out.below vB2.out v1H.out.lt).cell 1, (v1H.out.below vB2.out v1H.out.lt).cell 2, (v1H.out.below vB2.out v1H.out.lt).cell 3, (v1H.out.below vB2.out v1H.out.lt).cell 4⟩ (fun hHeld => ?_)
      clear hK K hV2
      refine norm_ (a' := ?_) ?_ ?_
      rotate_left
      · show Act.put _ (some 42) _ = _
        simp only [Act.put, List.setIfInBounds_toArray, List.set_cons_zero, List.set_cons_succ, i64_w, i32_w]
        rfl
      refine pure_ (i := 11) (N := (some 43)) (v := ?_) (a' := ?_) #[true, true, true, true, true, true, true, true, true, true, true, true] rfl rfl (by kernel_rfl) (fun _ _ _ h => h) (Or.inl ⟨by rfl, ?_⟩) ?_ ?_
      rotate_left
      · intro w'
        go_simp
        with_reducible rfl
      rotate_left
      · simp only [Act.put, List.setIfInBounds_toArray, List.set_cons_zero, List.set_cons_succ, i64_w, i32_w]
        rfl
      refine done_ (by kernel_rfl) ?_
      rw [hbtH.out]
      cases hhv : hasS s0 s1 s2 s3 (byteN s x.1) with
      | true =>
        have u2 := Lib.hid (show Boxed V2 b7 56 (pv s.size (w.heap.size + 2)) from (vB2.out.block _ v2H.out.lt).trans v2H.out)
        have u3 := Lib.hid (v3H.out.below vB2.out v3H.out.lt)
        have cu2 := u2.out.cell
        have fu3 := u3.out.frozen (x.1 + 1)
        have cu3 := u3.out.cellB (x.1 + 1) (by omega)
        have hw1 : IntKind.i64.wrap ((x.1 : Int) + 1) = ((x.1 + 1 : Nat) : Int) := by rw [IntKind.wrap_i64]; omega
        have hi1 : ((x.1 + 1 : Nat) : Int) < ((s.size + 1 : Nat) : Int) := by omega
        have hi2 : x.1 + 1 < s.size + 1 := by omega
        have hi3 : (0 : Int) ≤ ((x.1 + 1 : Nat) : Int) := by omega
        have goal : KeepsFrom w3.heap.size V (V2.setCell ⟨w.heap.size + 2, x.1 + 1, none⟩ (.bool true)) ∧ Keep2 h bx V (V2.setCell ⟨w.heap.size + 2, x.1 + 1, none⟩ (.bool true)) ∧ Boxed (V2.setCell ⟨w.heap.size + 2, x.1 + 1, none⟩ (.bool true)) w.heap.size 51 (.string s) ∧ Blk (V2.setCell ⟨w.heap.size + 2, x.1 + 1, none⟩ (.bool true)) (w.heap.size + 1) 28 (boxC 0 s0 s1 s2 s3 mn mx (.slice A ks.length c)) ∧ Boxed (V2.setCell ⟨w.heap.size + 2, x.1 + 1, none⟩ (.bool true)) b7 56 (pv s.size (w.heap.size + 2)) ∧ Blk (V2.setCell ⟨w.heap.size + 2, x.1 + 1, none⟩ (.bool true)) (w.heap.size + 2) 4 (arB s.size (setP s s0 s1 s2 s3 (pre ++ [x]))) ∧ Below w.heap.size w (V2.setCell ⟨w.heap.size + 2, x.1 + 1, none⟩ (.bool true)) ∧ w3.heap.size ≤ (V2.setCell ⟨w.heap.size + 2, x.1 + 1, none⟩ (.bool true)).heap.size := by
          refine ⟨((keeps_below vB2.out).trans (KeepsOthers.setCell _ _ _)).from _, (keep2_below hhV.out hxV.out vB2.out).trans (keep2_far (by omega) (by omega) _), ?_, ?_, ?_, ?_, ?_, ?_⟩
          · exact Blk.far (p := ⟨w.heap.size + 2, x.1 + 1, none⟩) ((vB2.out.block _ v0H.out.lt).trans v0H.out) (by simp only; omega) _
          · exact Blk.far (p := ⟨w.heap.size + 2, x.1 + 1, none⟩) (v1H.out.below vB2.out v1H.out.lt) (by simp only; omega) _
          · exact Blk.far (p := ⟨w.heap.size + 2, x.1 + 1, none⟩) u2.out (by simp only; omega) _
          · exact (u3.out.setB (x.1 + 1) true (by omega)).eqB (fun j _ => by
              rw [setP_snoc]; simp only [upd]
              by_cases e : j = x.1 + 1
              · subst e; rw [if_pos rfl]; simp [hin', hhv]
              · rw [if_neg e, show (x.1 + 1 == j) = false from beq_eq_false_iff_ne.2 (fun h => e h.symm)]; simp)
          · exact (below_then vBH.out vBH.out.size vB2.out).setCell (p := ⟨w.heap.size + 2, x.1 + 1, none⟩) (by simp only; omega) _
          · have := vB2.out.size; simp; omega
        have goalH := Lib.hid goal
        clear goal u2 u3 hhv
        gi_wp2
        exact goalH.out
      | false =>
        have goal : KeepsFrom w3.heap.size V V2 ∧ Keep2 h bx V V2 ∧ Boxed V2 w.heap.size 51 (.string s) ∧ Blk V2 (w.heap.size + 1) 28 (boxC 0 s0 s1 s2 s3 mn mx (.slice A ks.length c)) ∧ Boxed V2 b7 56 (pv s.size (w.heap.size + 2)) ∧ Blk V2 (w.heap.size + 2) 4 (arB s.size (setP s s0 s1 s2 s3 (pre ++ [x]))) ∧ Below w.heap.size w V2 ∧ w3.heap.size ≤ V2.heap.size := by
          refine ⟨(keeps_below vB2.out).from _, keep2_below hhV.out hxV.out vB2.out, (vB2.out.block _ v0H.out.lt).trans v0H.out, v1H.out.below vB2.out v1H.out.lt, (vB2.out.block _ v2H.out.lt).trans v2H.out, ?_, below_then vBH.out vBH.out.size vB2.out, Nat.le_trans vS vB2.out.size⟩
          exact (v3H.out.below vB2.out v3H.out.lt).eqB (fun j _ => by rw [setP_snoc]; simp [hin', hhv])
        have goalH := Lib.hid goal
        clear goal hhv
        gi_wp2
        exact goalH.out
    · have hd1 : decide ((x.1 : Int) < (s.size : Int)) = false := decide_eq_false (by omega)
      have hin' : decide (x.1 < s.size) = false := decide_eq_false hin
      have hhv : True := trivial
      gi_wp2_with (fail)
      refine startIn_ (n := 12) (S := (fun w' => w'.cell? ⟨w.heap.size, 0, none⟩ = some (.string s) ∧ w'.cell? ⟨w.heap.size + 1, 1, none⟩ = some (.int .u64 s0) ∧ w'.cell? ⟨w.heap.size + 1, 2, none⟩ = some (.int .u64 s1) ∧ w'.cell? ⟨w.heap.size + 1, 3, none⟩ = some (.int .u64 s2) ∧ w'.cell? ⟨w.heap.size + 1, 4, none⟩ = some (.int .u64 s3))) (ds := []) #[false, false, false, false, false, false, false, false, false, false, false, false] (by kernel_rfl) (by kernel_rfl) (fun ⟨_, _, h_⟩ => h_) rfl rfl ?_ (fun hHeld => ?_)
      · exact ⟨v0H.out.cell, v1H.out.cell 1, v1H.out.cell 2, v1H.out.cell 3, v1H.out.cell 4⟩
      have vB1 := Lib.hid (below_drew1 (Below.refl V.heap.size V))
      generalize V.drew = V1 at *
      refine pure_ (i := 0) (N := (some 32)) (v := ?_) (a' := ?_) #[true, false, false, false, false, false, false, false, false, false, false, false] rfl rfl (by kernel_rfl) (fun _ _ _ h => h) (Or.inl ⟨by rfl, ?_⟩) ?_ ?_
      rotate_left
      · intro w'
        go_simp
        with_reducible rfl
      rotate_left
      · simp only [Act.put, List.setIfInBounds_toArray, List.set_cons_zero, List.set_cons_succ, i64_w, i32_w]
        rfl
      refine take_ (i := 1) (N := (some 33)) (v := ?_) (a' := ?_) #[true, true, false, false, false, false, false, false, false, false, false, false] rfl rfl (by kernel_rfl) (fun _ _ _ h => h) (Or.inl ⟨by rfl, ?_⟩) hHeld ?_ ?_
      rotate_left
      · intro w' ⟨e0, e1, e2, e3, e4⟩
        go_simp
        with_reducible rfl
      rotate_left
      · simp only [Act.put, List.setIfInBounds_toArray, List.set_cons_zero, List.set_cons_succ, i64_w, i32_w]
        rfl
      refine pure_ (i := 2) (N := (some 34)) (v := ?_) (a' := ?_) #[true, true, true, false, false, false, false, false, false, false, false, false] rfl rfl (by kernel_rfl) (fun _ _ _ h => h) (Or.inl ⟨by rfl, ?_⟩) ?_ ?_
      rotate_left
      · intro w'
        go_simp
        with_reducible rfl
      rotate_left
      · simp only [Act.put, List.setIfInBounds_toArray, List.set_cons_zero, List.set_cons_succ, i64_w, i32_w]
        rfl
      refine pure_ (i := 3) (N := (some 35)) (v := ?_) (a' := ?_) #[true, true, true, true, false, false, false, false, false, false, false, false] rfl rfl (by kernel_rfl) (fun _ _ _ h => h) (Or.inl ⟨by rfl, ?_⟩) ?_ ?_
      rotate_left
      · intro w'
        go_simp
        with_reducible rfl
      rotate_left
      · simp only [Act.put, List.setIfInBounds_toArray, List.set_cons_zero, List.set_cons_succ, i64_w, i32_w]
        rfl
      refine pure_ (i := 4) (N := (some 36)) (v := ?_) (a' := ?_) #[true, true, true, true, true, false, false, false, false, false, false, false] rfl rfl (by kernel_rfl) (fun _ _ _ h => h) (Or.inl ⟨by rfl, ?_⟩) ?_ ?_
      rotate_left
      · intro w'
        go_simp
        with_reducible rfl
      rotate_left
      · simp only [Act.put, List.setIfInBounds_toArray, List.set_cons_zero, List.set_cons_succ, i64_w, i32_w]
        rfl
      refine pure_ (i := 5) (N := (some 37)) (v := undef) (a' := ?_) #[true, true, true, true, true, true, false, false, false, false, false, false] rfl rfl (by kernel_rfl) (fun _ _ _ h => h) (Or.inr ⟨by rfl, rfl⟩) ?_ ?_
      rotate_left
      · simp only [Act.put, List.setIfInBounds_toArray, List.set_cons_zero, List.set_cons_succ, i64_w, i32_w]
        rfl
      refine pure_ (i := 6) (N := (some 38)) (v := undef) (a' := ?_) #[true, true, true, true, true, true, true, false, false, false, false, false] rfl rfl (by kernel_rfl) (fun _ _ _ h => h) (Or.inr ⟨by rfl, rfl⟩) ?_ ?_
      rotate_left
      · simp only [Act.put, List.setIfInBounds_toArray, List.set_cons_zero, List.set_cons_succ, i64_w, i32_w]
        rfl
      refine pure_ (i := 7) (N := (some 39)) (v := undef) (a' := ?_) #[true, true, true, true, true, true, true, true, false, false, false, false] rfl rfl (by kernel_rfl) (fun _ _ _ h => h) (Or.inr ⟨by rfl, rfl⟩) ?_ ?_
      rotate_left
      · simp only [Act.put, List.setIfInBounds_toArray, List.set_cons_zero, List.set_cons_succ, i64_w, i32_w]
        rfl
      refine pure_ (i := 8) (N := (some 40)) (v := undef) (a' := ?_) #[true, true, true, true, true, true, true, true, true, false, false, false] rfl rfl (by kernel_rfl) (fun _ _ _ h => h) (Or.inr ⟨by rfl, rfl⟩) ?_ ?_
      rotate_left
      · simp only [Act.put, List.setIfInBounds_toArray, List.set_cons_zero, List.set_cons_succ, i64_w, i32_w]
        rfl
      refine pure_ (i := 9) (N := (some 41)) (v := undef) (a' := ?_) #[true, true, true, true, true, true, true, true, true, true, false, false] rfl rfl (by kernel_rfl) (fun _ _ _ h => h) (Or.inr ⟨by rfl, rfl⟩) ?_ ?_
      rotate_left
      · simp only [Act.put, List.setIfInBounds_toArray, List.set_cons_zero, List.set_cons_succ, i64_w, i32_w]
        rfl
      refine pure_ (i := 10) (N := (some 42)) (v := undef) (a' := ?_) #[true, true, true, true, true, true, true, true, true, true, true, false] rfl rfl (by kernel_rfl) (fun _ _ _ h => h) (Or.inr ⟨by rfl, rfl⟩) ?_ ?_
      rotate_left
      · simp only [Act.put, List.setIfInBounds_toArray, List.set_cons_zero, List.set_cons_succ, i64_w, i32_w]
        rfl
      refine pure_ (i := 11) (N := (some 43)) (v := ?_) (a' := ?_) #[true, true, true, true, true, true, true, true, true, true, true, true] rfl rfl (by kernel_rfl) (fun _ _ _ h => h) (Or.inl ⟨by rfl, ?_⟩) ?_ ?_
      rotate_left
      · intro w'
        go_simp
        with_reducible rfl
      rotate_left
      · simp only [Act.put, List.setIfInBounds_toArray, List.set_cons_zero, List.set_cons_succ, i64_w, i32_w]
        rfl
      refine done_ (by kernel_rfl) ?_
      have goal : KeepsFrom w3.heap.size V V1 ∧ Keep2 h bx V V1 ∧ Boxed V1 w.heap.size 51 (.string s) ∧ Blk V1 (w.heap.size + 1) 28 (boxC 0 s0 s1 s2 s3 mn mx (.slice A ks.length c)) ∧ Boxed V1 b7 56 (pv s.size (w.heap.size + 2)) ∧ Blk V1 (w.heap.size + 2) 4 (arB s.size (setP s s0 s1 s2 s3 (pre ++ [x]))) ∧ Below w.heap.size w V1 ∧ w3.heap.size ≤ V1.heap.size := by
        refine ⟨(keeps_below vB1.out).from _, keep2_below hhV.out hxV.out vB1.out, (vB1.out.block _ v0H.out.lt).trans v0H.out, v1H.out.below vB1.out v1H.out.lt, (vB1.out.block _ v2H.out.lt).trans v2H.out, ?_, below_then vBH.out vBH.out.size vB1.out, Nat.le_trans vS vB1.out.size⟩
        exact (v3H.out.below vB1.out v3H.out.lt).eqB (fun j _ => by rw [setP_snoc]; simp [hin', hhv])
      have goalH := Lib.hid goal
      clear goal hhv
      gi_wp2
      exact goalH.out
  case done =>
    rintro D ys V hD hys ⟨v0, v1, v2, v3, vB, vS⟩ hK
    have hc1 := v2.cell
    go_wp2
    refine ⟨by simp, .inl ⟨_, _, rfl, run_takeDeferred hK, ?_⟩⟩
    have hDl : w.heap.size + 2 < D := by omega
    have vB2 := vB.trans (belowK_b (w := w) (Nat.le_refl _) V D _ (.deferred none) (by omega) hK rfl rfl)
    have hr2 : Blk (V.putObj D (.deferred none)) (w.heap.size + 2) 4 (arB s.size (setP s s0 s1 s2 s3 ys)) := (World.putObj_heap_other (by omega)).trans v3
    exact ⟨_, results_tmp rfl _ _ _, w.heap.size + 2, rfl, by omega, hr2.eqB (fun j hj => hst.out ys hys j hj), vB2⟩
set_option maxRecDepth 100000 in
set_option maxHeartbeats 4000000 in
theorem step_oth (s : ByteArray) (hs : s.size ≤ 1000000) (op s0 s1 s2 s3 mn mx : Int) (ks : List Nd) (hk : ∀ k ∈ ks, StepOk s k) (hop : op ≠ 0 ∧ op ≠ 1 ∧ op ≠ 2 ∧ op ≠ 3) : StepOk s (.mk op s0 s1 s2 s3 mn mx ks) := by
  intro w v h P hn hP hr
  obtain ⟨A, c, rfl, hc, hlen, hK⟩ := hn
  simp only [op_mk, s0_mk, s1_mk, s2_mk, s3_mk, mn_mk, mx_mk, kids_mk] at hc hlen hK ⊢
  have hst := Lib.hid (fun (ys : List (PA s.size P)) (hys : ys.map (·.1) = trues s.size P) j hj => anyP_full s op s0 s1 s2 s3 mn mx ks hop.1 hop.2.1 hop.2.2.1 hop.2.2.2 ys hys j hj)
  have hapt := Lib.hid (fun w1 v at_ (hat : at_ ≤ s.size) hn => apart_c s hs op s0 s1 s2 s3 mn mx ks hk w1 v at_ hat hn)
  have hKH := Lib.hid hK
  have hkH := Lib.hid hk
  have hPH := Lib.hid hP
  have hrH := Lib.hid hr
  have hnone := Lib.hid (fun w1 => none_c s hs w1)
  have hmark := Lib.hid (fun g h hgh P Q w hg hh => mark_c g h s.size hs hgh P Q w hg hh)
  have hall := Lib.hid (fun w1 => all_c h s.size w1)
  have hfull := Lib.hid (List.take_length (l := ks))
  have hhlt := hr.lt
  have o0 : (op == 0) = false := beq_eq_false_iff_ne.2 (by omega)
  have o1 : (op == 1) = false := beq_eq_false_iff_ne.2 (by omega)
  have o2 : (op == 2) = false := beq_eq_false_iff_ne.2 (by omega)
  have o3 : (op == 3) = false := beq_eq_false_iff_ne.2 (by omega)
  clear hK hk hP hr hop
  show Calls Try.prog 28 #[.string s, .agg (boxC op s0 s1 s2 s3 mn mx (.slice A ks.length c)), pv s.size h] w _
  refine (callsIn_wide (n := 6)).1 ?_
  refine callsIn_of_wp_marks Try.func28 rfl trivial ?_ rfl
  refine wpIn_wide.2 ?_
  simp only [Try.ntmps28, List.size_toArray, List.length_cons, List.length_nil, Nat.reduceAdd, Nat.reduceSub, Array.replicate_succ, Array.replicate_zero, List.push_toArray, List.append_toArray, List.nil_append, List.cons_append]
  have z0 := Lib.hid (show Boxed ((w.alloc (.cells #[.string s] 51)).alloc (.cells (boxC op s0 s1 s2 s3 mn mx (.slice A ks.length c)) 28)) w.heap.size 51 (.string s) from (Boxed.new w 51 _).alloc _)
  have z1 := Lib.hid (show Blk ((w.alloc (.cells #[.string s] 51)).alloc (.cells (boxC op s0 s1 s2 s3 mn mx (.slice A ks.length c)) 28)) (w.heap.size + 1) 28 (boxC op s0 s1 s2 s3 mn mx (.slice A ks.length c)) from by have h := Blk.new (w.alloc (.cells #[.string s] 51)) 28 (boxC op s0 s1 s2 s3 mn mx (.slice A ks.length c)); rwa [World.size_alloc] at h)
  have zB := Lib.hid (below_alloc (below_alloc (Below.refl w.heap.size w) (.cells #[.string s] 51)) (.cells (boxC op s0 s1 s2 s3 mn mx (.slice A ks.length c)) 28))
  have zs : ((w.alloc (.cells #[.string s] 51)).alloc (.cells (boxC op s0 s1 s2 s3 mn mx (.slice A ks.length c)) 28)).heap.size = w.heap.size + 2 := by simp
  have zc : ((w.alloc (.cells #[.string s] 51)).alloc (.cells (boxC op s0 s1 s2 s3 mn mx (.slice A ks.length c)) 28)).cell? ⟨w.heap.size, 0, none⟩ = some (.string s) := z0.out.cell
  go_upto_region 1 with (fail)
  generalize (w.alloc (.cells #[.string s] 51)).alloc (.cells (boxC op s0 s1 s2 s3 mn mx (.slice A ks.length c)) 28) = W0 at *
  go_upto_region 2 with (go_at_call 33; refine (hnone.out _).mono ?_; rintro e w2 ⟨rfl, hb2, hB2⟩; have hE2 := Lib.hid hb2; have hB2H := Lib.hid hB2; clear hb2 hB2)
  replace hE2 : Hid (Blk w2 (w.heap.size + 2) 4 (arB s.size (fun _ => false))) := Lib.hid (by have := hE2.out; rwa [zs] at this)
  have hB2' := hB2H.out
  rw [zs] at hB2'
  have y0 := Lib.hid (show Boxed (w2.alloc (.cells #[pv s.size (w.heap.size + 2)] 56)) w.heap.size 51 (.string s) from Boxed.alloc ((hB2'.block _ (by omega)).trans z0.out) _)
  have y1 := Lib.hid (show Blk (w2.alloc (.cells #[pv s.size (w.heap.size + 2)] 56)) (w.heap.size + 1) 28 (boxC op s0 s1 s2 s3 mn mx (.slice A ks.length c)) from Blk.alloc ((hB2'.block _ (by omega)).trans z1.out) _)
  have y2 := Lib.hid (hE2.out.alloc (.cells #[pv s.size (w.heap.size + 2)] 56))
  have y3 := Lib.hid (Boxed.new w2 56 (pv s.size (w.heap.size + 2)))
  have hBw := below_then zB.out zB.out.size hB2H.out
  have yB := Lib.hid (below_alloc hBw (.cells #[pv s.size (w.heap.size + 2)] 56))
  have yh := Lib.hid ((hrH.out.below hBw hhlt).alloc (.cells #[pv s.size (w.heap.size + 2)] 56))
  have hb7 : w.heap.size + 2 < w2.heap.size := hE2.out.lt
  have ysz : w2.heap.size < (w2.alloc (.cells #[pv s.size (w.heap.size + 2)] 56)).heap.size := y3.out.lt
  have yc : (w2.alloc (.cells #[pv s.size (w.heap.size + 2)] 56)).cell? ⟨w.heap.size + 1, 0, none⟩ = some (.int .i64 op) := y1.out.cell 0
  clear z0 z1 zB zc hE2 hB2H hB2' hBw hrH zs
  generalize w2.alloc (.cells #[pv s.size (w.heap.size + 2)] 56) = W at *
  generalize w2.heap.size = b7 at *
  have yle : w.heap.size ≤ W.heap.size := by omega
  have yne : w.heap.size + 2 ≠ h := by omega
  have yle2 : w.heap.size ≤ w.heap.size + 2 := by omega
  have yo := y3.out.cell
  go_wp2_with (go_at_call 30; refine (hall.out _).mono ?_; rintro e w3 ⟨rfl, hb3, hB3⟩; have x0 := Lib.hid (show Boxed w3 w.heap.size 51 (.string s) from (hB3.block _ y0.out.lt).trans y0.out); have x1 := Lib.hid (y1.out.below hB3 y1.out.lt); have x2 := Lib.hid (y2.out.below hB3 y2.out.lt); have x3 := Lib.hid (show Boxed w3 b7 56 (pv s.size (w.heap.size + 2)) from (hB3.block _ y3.out.lt).trans y3.out); have xB := Lib.hid (below_then yB.out yle hB3); have xh := Lib.hid (yh.out.below hB3 yh.out.lt); have xb := Lib.hid hb3; have xlt := y3.out.lt; clear hB3 hb3)
  clear yc y0 y1 y2 y3 yB yh hall hnone yo ysz yle
  have xbl := xb.out.lt
  generalize W.heap.size = bx at *
  refine (wpIn_wide (n := 6)).1 ?_
  refine rangeG (n := 6) 20 13 (by omega) (gf := 38) (lb := #[.pointer (some ⟨bx, 0, none⟩)]) rfl (enters_of Try.func38 (by kernel_rfl) rfl)
    (all_stops (6 - 1) (by omega) bx h s.size hs P w3 xb.out xh.out) keep2_t (keep2_b xh.out.lt xbl) (Below.refl _ _) (fun _ => rfl)
    (fun pre W => Boxed W w.heap.size 51 (.string s) ∧ Blk W (w.heap.size + 1) 28 (boxC op s0 s1 s2 s3 mn mx (.slice A ks.length c)) ∧ Boxed W b7 56 (pv s.size (w.heap.size + 2)) ∧ Blk W (w.heap.size + 2) 4 (arB s.size (anyP s (decide (op = 5)) ks pre)) ∧ Below w.heap.size w W ∧ w3.heap.size ≤ W.heap.size)
    (OwnFrom.and (Own.from (boxed_own w.heap.size 51 (fun _ => .string s)) _) (OwnFrom.and (ownFrom_blk _ (w.heap.size + 1) 28 (fun _ => (boxC op s0 s1 s2 s3 mn mx (.slice A ks.length c)))) (OwnFrom.and (Own.from (boxed_own b7 56 (fun _ => pv s.size (w.heap.size + 2))) _) (OwnFrom.and (ownFrom_blk _ (w.heap.size + 2) 4 (fun pre => arB s.size (anyP s (decide (op = 5)) ks pre))) (OwnFrom.and (ownFrom_below (Nat.le_refl _) xB.out.size) (ownFrom_size _ _))))))
    ⟨x0.out, x1.out, x3.out, x2.out.eqB (fun i _ => by simp [anyP]), xB.out, Nat.le_refl _⟩
    (fun x => .int .i64 (x.1 : Int)) ?assign ?body ?done
  case assign =>
    intro l x W K hK
    simp only [encP]
    gi_wp2
    exact hK
  case body =>
    rintro l pre x V ⟨v0, v1, v2, v3, vB, vS⟩ hlt
    simp only [List.setIfInBounds_toArray, List.set_cons_zero, List.set_cons_succ]
    have hxN := x.2.1
    have v0H := Lib.hid v0
    have v1H := Lib.hid v1
    have v2H := Lib.hid v2
    have v3H := Lib.hid v3
    have vBH := Lib.hid vB
    have hi0 : (0 : Int) ≤ (x.1 : Int) := by omega
    have hxV := Lib.hid (show bx < V.heap.size from Nat.lt_of_lt_of_le xbl vS)
    have hhV := Lib.hid (show h < V.heap.size from Nat.lt_of_lt_of_le hhlt vB.size)
    clear v0 v1 v2 v3 vB
    gi_wp2_with (fail)
    refine startIn_ (n := 6) (S := (fun w' => cells8 w' (w.heap.size + 1) op s0 s1 s2 s3 mn mx (.slice A ks.length c) ∧ w'.cell? ⟨w.heap.size, 0, none⟩ = some (.string s) ∧ w'.cell? ⟨b7, 0, none⟩ = some (pv s.size (w.heap.size + 2)))) (ds := []) #[false, false, false, false, false, false] (by kernel_rfl) (by kernel_rfl) (fun ⟨_, _, h_⟩ => h_) rfl rfl ?_ (fun hHeld => ?_)
    · exact ⟨cells8_of v1H.out, v0H.out.cell, v2H.out.cell⟩
    have vB1 := Lib.hid (below_drew1 (Below.refl V.heap.size V))
    generalize V.drew = V1 at *
    refine take_ (i := 0) (N := (some 21)) (v := ?_) (a' := ?_) #[true, false, false, false, false, false] rfl rfl (by kernel_rfl) (fun _ _ _ h => h) (Or.inl ⟨by rfl, ?_⟩) hHeld ?_ ?_
    rotate_left
    · intro w' ⟨⟨e0, e1, e2, e3, e4, e5, e6, e7⟩, f0, f1⟩
      go_simp
      with_reducible rfl
    rotate_left
    · simp only [Act.put, List.setIfInBounds_toArray, List.set_cons_zero, List.set_cons_succ, i64_w, i32_w]
      rfl
    refine take_ (i := 1) (N := (some 22)) (v := ?_) (a' := ?_) #[true, true, false, false, false, false] rfl rfl (by kernel_rfl) (fun _ _ _ h => h) (Or.inl ⟨by rfl, ?_⟩) hHeld ?_ ?_
    rotate_left
    · intro w' ⟨⟨e0, e1, e2, e3, e4, e5, e6, e7⟩, f0, f1⟩
      go_simp
      with_reducible rfl
    rotate_left
    · simp only [Act.put, List.setIfInBounds_toArray, List.set_cons_zero, List.set_cons_succ, i64_w, i32_w]
      rfl
    refine take_ (i := 2) (N := (some 23)) (v := ?_) (a' := ?_) #[true, true, true, false, false, false] rfl rfl (by kernel_rfl) (fun _ _ _ h => h) (Or.inl ⟨by rfl, ?_⟩) hHeld ?_ ?_
    rotate_left
    · intro w' ⟨⟨e0, e1, e2, e3, e4, e5, e6, e7⟩, f0, f1⟩
      go_simp
      with_reducible rfl
    rotate_left
    · simp only [Act.put, List.setIfInBounds_toArray, List.set_cons_zero, List.set_cons_succ, i64_w, i32_w]
      rfl
    refine pure_ (i := 3) (N := (some 24)) (v := ?_) (a' := ?_) #[true, true, true, true, false, false] rfl rfl (by kernel_rfl) (fun _ _ _ h => h) (Or.inl ⟨by rfl, ?_⟩) ?_ ?_
    rotate_left
    · intro w'
      go_simp
      with_reducible rfl
    rotate_left
    · simp only [Act.put, List.setIfInBounds_toArray, List.set_cons_zero, List.set_cons_succ, i64_w, i32_w]
      rfl
    refine one_ (i := 4) (N := (some 25)) #[true, true, true, true, true, false] rfl rfl (by kernel_rfl) (by decide) (fun K hK => ?_)
    refine goes_ Try.func37 (by kernel_rfl) rfl #[.string s, .agg (boxC op s0 s1 s2 s3 mn mx (.slice A ks.length c)), .int .i64 (x.1 : Int)] (by rfl) rfl rfl (by simp only [List.map_toArray, List.map_cons, List.map_nil]; rfl) ?_
    have hKV := NKs_below (below_then vBH.out vBH.out.size vB1.out) A 0 ks hKH.out
    refine (hapt.out V1 _ x.1 hxN ⟨A, c, rfl, hc, hlen, hKV⟩).mono ?_
    rintro e V2 ⟨gx, rfl, hgx, hE2, hV2⟩
    refine ⟨_, rfl, ?_⟩
    have vB2 := Lib.hid (below_then vB1.out vB1.out.size hV2)
    have t0 := Lib.hid (show Boxed V2 w.heap.size 51 (.string s) from (vB2.out.block _ v0H.out.lt).trans v0H.out)
    have t1 := Lib.hid (v1H.out.below vB2.out v1H.out.lt)
    have t2 := Lib.hid (show Boxed V2 b7 56 (pv s.size (w.heap.size + 2)) from (vB2.out.block _ v2H.out.lt).trans v2H.out)
    have t3 := Lib.hid (v3H.out.below vB2.out v3H.out.lt)
    have tx := Lib.hid hE2
    have hgx2 : w.heap.size + 2 < gx := Nat.lt_of_lt_of_le (Nat.lt_of_lt_of_le v3H.out.lt vB1.out.size) hgx
    refine hK.out _ _ ⟨cells8_of t1.out, t0.out.cell, t2.out.cell⟩ (fun hHeld => ?_)
    clear hK K hV2 hKV hE2
    refine norm_ (a' := ?_) ?_ ?_
    rotate_left
    · show Act.put _ (some 25) _ = _
      simp only [Act.put, List.setIfInBounds_toArray, List.set_cons_zero, List.set_cons_succ, i64_w, i32_w]
      rfl
    refine one_ (i := 5) (N := (some 26)) #[true, true, true, true, true, true] rfl rfl (by kernel_rfl) (by decide) (fun K hK => ?_)
    refine goes_ Try.func35 (by kernel_rfl) rfl #[pv s.size (w.heap.size + 2), pv s.size gx] (by rfl) rfl rfl (by simp only [List.map_toArray, List.map_cons, List.map_nil]; rfl) ?_
    refine (hmark.out (w.heap.size + 2) gx (by omega) _ _ _ t3.out tx.out).mono ?_
    rintro e V3 ⟨rfl, hE3, hg3⟩
    refine ⟨_, rfl, ?_⟩
    have r0 := Lib.hid (show Boxed V3 w.heap.size 51 (.string s) from (hg3.block _ t0.out.lt (fun e => by injection e with e; omega)).trans t0.out)
    have r1 := Lib.hid (show Blk V3 (w.heap.size + 1) 28 (boxC op s0 s1 s2 s3 mn mx (.slice A ks.length c)) from (hg3.block _ t1.out.lt (fun e => by injection e with e; omega)).trans t1.out)
    have r2 := Lib.hid (show Boxed V3 b7 56 (pv s.size (w.heap.size + 2)) from (hg3.block _ t2.out.lt (fun e => by injection e with e; omega)).trans t2.out)
    have goal : KeepsFrom w3.heap.size V V3 ∧ Keep2 h bx V V3 ∧ Boxed V3 w.heap.size 51 (.string s) ∧ Blk V3 (w.heap.size + 1) 28 (boxC op s0 s1 s2 s3 mn mx (.slice A ks.length c)) ∧ Boxed V3 b7 56 (pv s.size (w.heap.size + 2)) ∧ Blk V3 (w.heap.size + 2) 4 (arB s.size (anyP s (decide (op = 5)) ks (pre ++ [x]))) ∧ Below w.heap.size w V3 ∧ w3.heap.size ≤ V3.heap.size := by
      refine ⟨((keeps_below vB2.out).trans (keeps_grown hg3 t3.out)).from _, (keep2_below hhV.out hxV.out vB2.out).trans (keep2_grown (Nat.lt_of_lt_of_le hhV.out vB2.out.size) (Nat.lt_of_lt_of_le hxV.out vB2.out.size) (by omega) (by omega) hg3), r0.out, r1.out, r2.out, hE3.eqB (fun j _ => anyP_snoc s _ ks pre x j), below_grown2 (below_then vBH.out vBH.out.size vB2.out) (Nat.le_trans vBH.out.size vB2.out.size) hg3 (by omega), Nat.le_trans vS (Nat.le_trans vB2.out.size hg3.size)⟩
    have goalH := Lib.hid goal
    refine hK.out _ _ ⟨cells8_of r1.out, r0.out.cell, r2.out.cell⟩ (fun hHeld => ?_)
    clear hK K goal hE3 hg3
    refine norm_ (a' := ?_) ?_ ?_
    rotate_left
    · show Act.put _ (some 26) _ = _
      simp only [Act.put, List.setIfInBounds_toArray, List.set_cons_zero, List.set_cons_succ, i64_w, i32_w]
      rfl
    refine done_ (by kernel_rfl) ?_
    gi_wp2
    exact goalH.out
  case done =>
    rintro D ys V hD hys ⟨v0, v1, v2, v3, vB, vS⟩ hK
    have hc1 := v2.cell
    go_wp2
    refine ⟨by simp, .inl ⟨_, _, rfl, run_takeDeferred hK, ?_⟩⟩
    have hDl : w.heap.size + 2 < D := by omega
    have vB2 := vB.trans (belowK_b (w := w) (Nat.le_refl _) V D _ (.deferred none) (by omega) hK rfl rfl)
    have hr2 : Blk (V.putObj D (.deferred none)) (w.heap.size + 2) 4 (arB s.size (anyP s (decide (op = 5)) ks ys)) := (World.putObj_heap_other (by omega)).trans v3
    exact ⟨_, results_tmp rfl _ _ _, w.heap.size + 2, rfl, by omega, hr2.eqB (fun j hj => hst.out ys hys j hj), vB2⟩
theorem wf_op (op s0 s1 s2 s3 mn mx : Int) (ks : List Nd) (h : Wf (.mk op s0 s1 s2 s3 mn mx ks)) : (op = 3 → ks ≠ []) ∧ (0 ≤ mn ∧ mn ≤ 1000) ∧ mx ≤ 1000 ∧ Wfs ks := by unfold Wf at h; exact h
mutual
theorem step_ok (s : ByteArray) (hs : s.size ≤ 1000000) : ∀ n : Nd, Wf n → StepOk s n
  | .mk op s0 s1 s2 s3 mn mx ks, h => by
    obtain ⟨h1, h2, h3, h4⟩ := wf_op op s0 s1 s2 s3 mn mx ks h
    have hk := steps_ok s hs ks h4
    by_cases e0 : op = 0
    · exact step_set s hs op s0 s1 s2 s3 mn mx ks hk e0
    by_cases e1 : op = 1
    · exact step_cat s hs op s0 s1 s2 s3 mn mx ks hk e1
    by_cases e2 : op = 2
    · exact step_alt s hs op s0 s1 s2 s3 mn mx ks hk e2
    by_cases e3 : op = 3
    · exact step_rep s hs op s0 s1 s2 s3 mn mx ks hk e3 (h1 e3) h2 h3
    exact step_oth s hs op s0 s1 s2 s3 mn mx ks hk ⟨e0, e1, e2, e3⟩
theorem steps_ok (s : ByteArray) (hs : s.size ≤ 1000000) : ∀ ks : List Nd, Wfs ks → ∀ k ∈ ks, StepOk s k
  | [], _ => fun k hk => by simp at hk
  | k :: ks, h => fun q hq => by
    unfold Wfs at h
    have h1 := step_ok s hs k h.1
    have h2 := steps_ok s hs ks h.2
    rcases List.mem_cons.1 hq with e | e
    · rw [e]; exact h1
    · exact h2 q e
end
end Go.Proofs.Ytimhiacjoplkeaa
