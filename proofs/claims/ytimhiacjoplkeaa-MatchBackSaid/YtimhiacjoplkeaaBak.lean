/- The reference's Back walked. Own text. -/
import Derived.Test.YtimhiacjoplkeaaTrn
import Derived.Test.YtimhiacjoplkeaaApt
import Derived.Test.YtimhiacjoplkeaaMkA
namespace Go.Proofs.Ytimhiacjoplkeaa
open Go.RowKit Go.Proofs.Ytimhiacjoplkeaa.P Go.Proofs.YtimhiacjoplkeaaW.PrintWords Go.Proofs.YtimhiacjoplkeaaW.PrintLast
set_option linter.unusedVariables false
set_option linter.unusedSimpArgs false
theorem NMs_of {w : World} {base : Nat} {ok : Nat → Prop} {cells : Array Value} : ∀ (l : List Nd) (i : Nat), (∀ (j : Nat) x, l[j]? = some x → ∃ cs, NM w base ok x cs ∧ ∀ (t : Nat) u, cs[t]? = some u → cells[(i + j) * 8 + t]? = some u) → NMs w base ok cells i l
  | [], _, _ => by unfold NMs; trivial
  | x :: l, i, h => by
    unfold NMs
    refine ⟨?_, NMs_of l (i + 1) (fun j y hy => ?_)⟩
    · obtain ⟨cs, h1, h2⟩ := h 0 x rfl
      exact ⟨cs, h1, fun t u hu => h2 t u hu⟩
    · obtain ⟨cs, h1, h2⟩ := h (j + 1) y (by simpa using hy)
      exact ⟨cs, h1, fun t u hu => by rw [show i + 1 + j = i + (j + 1) by omega]; exact h2 t u hu⟩
theorem NM_of_R {w : World} {base : Nat} {ok : Nat → Prop} {v : Value} {l : List Nd} (h : kNd.R 28 w base ok v l) (hl : l.length ≤ 1000000) (hnil : l = [] → v = .slice none 0 0) (op s0 s1 s2 s3 mn mx : Int) :
    NM w base ok (.mk op s0 s1 s2 s3 mn mx l) (ndCells (.mk op s0 s1 s2 s3 mn mx l) v) := by
  unfold NM
  refine ⟨v, rfl, hl, ?_⟩
  by_cases hp : 0 < l.length
  · right
    obtain ⟨g, cap, rfl, hb, hlt, cells, hc⟩ := Kd.R_form h hp
    refine ⟨g, cap, cells, rfl, (Kd.R_reads' h).2.1, h.1 g (by simp [Value.ownBlock]), hb, hc, NMs_of l 0 (fun j x hx => ?_)⟩
    have hj := (List.getElem?_eq_some_iff.1 hx).1
    obtain ⟨cs, _, hM, hcc, _⟩ := Kd.R_elem h zNd (j : Int) (by omega) (by omega)
    have hxx : l.getD (j : Int).toNat zNd = x := by rw [show (j : Int).toNat = j from rfl, List.getD_eq_getElem?_getD, hx]; rfl
    rw [hxx] at hM
    refine ⟨cs, NM_mono (fun k hk => hk.1) _ _ hM, fun t u hu => ?_⟩
    have := hcc t u hu
    rw [cell_of_cells hc] at this
    rw [Nat.zero_add]; exact this
  · left
    have e : l = [] := List.eq_nil_of_length_eq_zero (by omega)
    exact ⟨e, hnil e⟩
/-- The kids, turned. -/
def bkL (op : Int) (ks : List Nd) : List Nd := if op = 1 then (bks ks).reverse else bks ks
theorem bkL_length (op : Int) (ks : List Nd) : (bkL op ks).length = ks.length := by unfold bkL; split <;> simp [bks_map]
theorem bkL_get1 (ks : List Nd) (i p : Nat) (h : i + p + 1 = ks.length) : (bkL 1 ks)[i]? = (ks[p]?).map bk := by
  unfold bkL
  rw [if_pos rfl, bks_map, List.getElem?_reverse (by rw [List.length_map]; omega), List.getElem?_map, List.length_map]
  rw [show ks.length - 1 - i = p by omega]
theorem bkL_get (op : Int) (ho : op ≠ 1) (ks : List Nd) (i : Nat) : (bkL op ks)[i]? = (ks[i]?).map bk := by
  unfold bkL
  rw [if_neg ho, bks_map, List.getElem?_map]
def BackOk (n : Nd) : Prop := ∀ w v, IsN w n v → Calls Try.prog 16 #[v] w fun e w' => ∃ A m c, e = .returned (ndVal (bk n) (.slice A m c)) ∧ NM w' w.heap.size (fun _ => True) (bk n) (ndCells (bk n) (.slice A m c)) ∧ Below w.heap.size w w'
/-- Between two kids of Back. -/
structure MkB (W0 wr : World) (v : Value) (l : List Nd) : Prop where
  r : kNd.R 28 wr W0.heap.size (fun _ => True) v l
  b : Below W0.heap.size W0 wr
  z : l = [] → v = .slice none 0 0
theorem MkB.below {W0 wr w1 : World} {v : Value} {l : List Nd} (h : MkB W0 wr v l) (hb : Below wr.heap.size wr w1) : MkB W0 w1 v l := ⟨Kd.R_below h.r hb, below_then h.b h.b.size hb, h.z⟩
theorem made_in {W0 w1 w2 : World} {x : Nd} {cs : List Value} (h : NM w2 w1.heap.size (fun _ => True) x cs) (hb : W0.heap.size ≤ w1.heap.size) : NM w2 W0.heap.size (fun k => w1.heap.size ≤ k) x cs :=
  NM_mono (fun k hk => hk.2.1) _ _ (NM_lower hb _ _ (NM_bound _ _ h))
theorem back_ok {W0 w1 w2 : World} {v : Value} {l : List Nd} (h : MkB W0 w1 v l) : ∀ k, w1.heap.size ≤ k → (fun _ : Nat => True) k ∧ some k ≠ v.ownBlock := fun k hk => ⟨trivial, fun e => by
  have := Kd.R_lt h.r k e.symm
  omega⟩
set_option maxRecDepth 20000 in
set_option maxHeartbeats 4000000 in
theorem back_mk (op s0 s1 s2 s3 mn mx : Int) (ks : List Nd) (hk : ∀ k ∈ ks, BackOk k) : BackOk (.mk op s0 s1 s2 s3 mn mx ks) := by
  intro w v hn
  obtain ⟨A, c, rfl, hc, hlen, hK⟩ := hn
  simp only [op_mk, s0_mk, s1_mk, s2_mk, s3_mk, mn_mk, mx_mk, kids_mk] at hc hlen hK ⊢
  have hKH := Lib.hid hK
  have hkH := Lib.hid hk
  have hbk := Lib.hid (show bk (.mk op s0 s1 s2 s3 mn mx ks) = .mk op s0 s1 s2 s3 mn mx (bkL op ks) from by unfold bk bkL; rfl)
  have hbl := Lib.hid (bkL_length op ks)
  have hbg := Lib.hid (fun (i p : Nat) (x : Nd) (hx : ks[p]? = some x) (h : (op = 1 ∧ i + p + 1 = ks.length) ∨ (op ≠ 1 ∧ p = i)) => show (bkL op ks)[i]? = some (bk x) from by
    rcases h with ⟨h1, h2⟩ | ⟨h1, h2⟩
    · subst h1; rw [bkL_get1 ks i p h2, hx]; rfl
    · subst h2; rw [bkL_get op h1 ks p, hx]; rfl)
  clear hK hk
  generalize bkL op ks = L at *
  generalize bk (.mk op s0 s1 s2 s3 mn mx ks) = R at *
  show Calls Try.prog 16 #[.agg (boxC op s0 s1 s2 s3 mn mx (.slice A ks.length c))] w _
  go_enter Try.func16, Try.ntmps16
  go_wp2
  have hX0 := Lib.hid ((Blk.new w 28 (boxC op s0 s1 s2 s3 mn mx (.slice A ks.length c))).alloc (.cells (boxC 0 0 0 0 0 0 0 (.slice none 0 0)) 28))
  have hX1 := Lib.hid (Blk.new (w.alloc (.cells (boxC op s0 s1 s2 s3 mn mx (.slice A ks.length c)) 28)) 28 (boxC 0 0 0 0 0 0 0 (.slice none 0 0)))
  have hB0 := Lib.hid (below_alloc (below_alloc (Below.refl w.heap.size w) (.cells (boxC op s0 s1 s2 s3 mn mx (.slice A ks.length c)) 28)) (.cells (boxC 0 0 0 0 0 0 0 (.slice none 0 0)) 28))
  rw [World.size_alloc] at hX1
  have hb1 : w.heap.size ≤ w.heap.size + 1 := by omega
  have hb01 : w.heap.size ≠ w.heap.size + 1 := by omega
  generalize w.heap.size + 1 = b1 at *
  generalize hW0 : (w.alloc (.cells (boxC op s0 s1 s2 s3 mn mx (.slice A ks.length c)) 28)).alloc (.cells (boxC 0 0 0 0 0 0 0 (.slice none 0 0)) 28) = W0 at *
  clear hW0
  go_loopw [3, 4] (fun ll ii wr => ∃ i : Nat, i ≤ ks.length ∧ ii = .int .i64 i ∧ Hid (MkB W0 wr ll (L.take i))) (fun _ ii _ => ks.length - (intOf ii).toNat)
  case atStart => exact ⟨0, by omega, rfl, Lib.hid ⟨by rw [List.take_zero]; exact Kd.R_nil _ _ _ _ _, Below.refl _ _, fun _ => rfl⟩⟩
  case round =>
    obtain ⟨i, hi, rfl, hM⟩ := hrel
    obtain ⟨wp, rfl⟩ : ∃ wp : World, wp = wr := ⟨_, rfl⟩
    have hX := Lib.hid (hX0.out.below hM.out.b hX0.out.lt)
    have hBw := Lib.hid (below_then hB0.out hB0.out.size hM.out.b)
    have hc7 : wp.cell? ⟨w.heap.size, 7, none⟩ = some (.slice A ks.length c) := hX.out.cell 7
    have hc0 : wp.cell? ⟨w.heap.size, 0, none⟩ = some (.int .i64 op) := hX.out.cell 0
    have hln := Lib.hid (show (L.take i).length = i by rw [List.length_take, hbl.out]; omega)
    obtain ⟨A3, c3, e3⟩ := Kd.R_slice hM.out.r
    subst e3
    by_cases hlj : i < ks.length
    · have hd2 : decide ((i : Int) < (ks.length : Int)) = true := decide_eq_true (by omega)
      obtain ⟨p, q, hp⟩ : ∃ p q : Nat, (op = 1 ∧ i + p + 1 = ks.length ∧ q + 1 = ks.length) ∨ (op ≠ 1 ∧ p = i ∧ q = 0) := by
        by_cases ho : op = 1
        · exact ⟨ks.length - 1 - i, ks.length - 1, .inl ⟨ho, by omega, by omega⟩⟩
        · exact ⟨i, 0, .inr ⟨ho, rfl, rfl⟩⟩
      have hpl : p < ks.length := by omega
      have hj0 : (0 : Int) ≤ (p : Int) := by omega
      have hj1 : (p : Int) < (ks.length : Int) := by omega
      have hi0 : (0 : Int) ≤ (i : Int) := by omega
      obtain ⟨ad, A', c', hA, hN, q0, q1, q2, q3, q4, q5, q6, q7⟩ := kid_at hKH.out p hpl
      subst hA
      have hNp := Lib.hid (hN.below hBw.out)
      replace q0 := pw_cell_below hBw.out q0
      replace q1 := pw_cell_below hBw.out q1
      replace q2 := pw_cell_below hBw.out q2
      replace q3 := pw_cell_below hBw.out q3
      replace q4 := pw_cell_below hBw.out q4
      replace q5 := pw_cell_below hBw.out q5
      replace q6 := pw_cell_below hBw.out q6
      replace q7 := pw_cell_below hBw.out q7
      have hnk := hkH.out ks[p] (List.getElem_mem hpl)
      have hgi := hbg.out i p ks[p] (List.getElem?_eq_getElem hpl) (by rcases hp with h | h; exact .inl ⟨h.1, h.2.1⟩; exact .inr ⟨h.1, h.2.1⟩)
      have htk := Lib.hid (show L.take (i + 1) = L.take i ++ [bk ks[p]] by rw [List.take_add_one, hgi]; rfl)
      clear hN hgi
      have hcall := hnk _ _ hNp.out
      generalize ks[p] = k at *
      obtain ⟨m, hm⟩ : ∃ m, m = k.kids.length := ⟨_, rfl⟩
      rw [← hm] at hNp q7 hcall
      have hcallH := Lib.hid hcall
      clear hm hcall hnk
      generalize bk k = nk at *
      generalize hl3 : L.take i = l at *
      clear hl3
      have hll : l.length ≤ 1000000 := by have := hln.out; omega
      rcases hp with ⟨ho, hp1, hp2⟩ | ⟨ho, hp1, hp2⟩
      · have hm1 : (ks.length : Int) - 1 = (q : Int) := by omega
        have hm2 : (q : Int) - (i : Int) = (p : Int) := by omega
        have d1 : decide (op = 1) = true := decide_eq_true ho
        have b1' : (op == 1) = true := beq_iff_eq.2 ho
        have hoH := Lib.hid ho
        clear ho hp1 hp2
        go_wp2_with (first
          | (go_at_call 16; refine (hcallH.out).mono ?_; rintro e w6 ⟨A6, m6, c6, rfl, hN6, hbb⟩; have hM6 := Lib.hid (hM.out.below hbb); have hN6H := Lib.hid (made_in hN6 hM.out.b.size); have hok6 := Lib.hid (back_ok (w2 := w6) hM.out); have hVs6 := Lib.hid hM6.out.b.size; clear hbb hN6 hc7 hc0 q0 q1 q2 q3 q4 q5 q6 q7)
          | ((with_reducible refine gate_builtin (b := .append) (xs := #[.tmp 23, .tmp 30]) rfl ?_); at_builtin; go_loud (refine Kd.R_append kNd (w0 := W0) W0.heap.size rfl (.tmp 23) (.tmp 30) 26 28 (.agg #[.int .i64 0, .int .u64 0, .int .u64 0, .int .u64 0, .int .u64 0, .int .i64 0, .int .i64 0, .slice none 0 0]) 80 rfl Try.underlying26 info28' rfl (by decide) (by decide) (.slice A3 l.length c3) l nk (ndCells nk (.slice A6 m6 c6)) (fun _ => True) (fun k => wp.heap.size ≤ k) rfl rfl hN6H.out hok6.out (fun _ _ => trivial) hM6.out.r hM6.out.b hVs6.out (by omega) ?_; intro v9 w9 ho9 hb9 hg9 hat9; have hMN := Lib.hid (show MkB W0 w9 v9 (l ++ [nk]) from ⟨ho9, hb9, fun h => by simp at h⟩); clear ho9 hb9 hg9 hat9)))
        all_goals go_roundw
        all_goals (first | (exact ⟨i + 1, by omega, by go_num, by rw [htk.out]; exact hMN⟩) | (simp [intOf]; omega))
      · subst hp1
        have d1 : decide (op = 1) = false := decide_eq_false ho
        have b1' : (op == 1) = false := beq_false_of_ne ho
        go_wp2_with (first
          | (go_at_call 16; refine (hcallH.out).mono ?_; rintro e w6 ⟨A6, m6, c6, rfl, hN6, hbb⟩; have hM6 := Lib.hid (hM.out.below hbb); have hN6H := Lib.hid (made_in hN6 hM.out.b.size); have hok6 := Lib.hid (back_ok (w2 := w6) hM.out); have hVs6 := Lib.hid hM6.out.b.size; clear hbb hN6 hc7 hc0 q0 q1 q2 q3 q4 q5 q6 q7)
          | ((with_reducible refine gate_builtin (b := .append) (xs := #[.tmp 23, .tmp 30]) rfl ?_); at_builtin; go_loud (refine Kd.R_append kNd (w0 := W0) W0.heap.size rfl (.tmp 23) (.tmp 30) 26 28 (.agg #[.int .i64 0, .int .u64 0, .int .u64 0, .int .u64 0, .int .u64 0, .int .i64 0, .int .i64 0, .slice none 0 0]) 80 rfl Try.underlying26 info28' rfl (by decide) (by decide) (.slice A3 l.length c3) l nk (ndCells nk (.slice A6 m6 c6)) (fun _ => True) (fun k => wp.heap.size ≤ k) rfl rfl hN6H.out hok6.out (fun _ _ => trivial) hM6.out.r hM6.out.b hVs6.out (by omega) ?_; intro v9 w9 ho9 hb9 hg9 hat9; have hMN := Lib.hid (show MkB W0 w9 v9 (l ++ [nk]) from ⟨ho9, hb9, fun h => by simp at h⟩); clear ho9 hb9 hg9 hat9)))
        all_goals go_roundw
        all_goals (first | (exact ⟨p + 1, by omega, by go_num, by rw [htk.out]; exact hMN⟩) | (simp [intOf]; omega))
    · have hd2 : decide ((i : Int) < (ks.length : Int)) = false := decide_eq_false (by omega)
      have hnd : ¬ i < ks.length := hlj
      have hil : L.take i = L := by rw [List.take_of_length_le (by rw [hbl.out]; omega)]
      rw [hil] at hM ⊢
      have hll : Hid (L.length ≤ 1000000) := Lib.hid (by rw [hbl.out]; omega)
      have hX1p := Lib.hid (hX1.out.below hM.out.b hX1.out.lt)
      clear hil hln
      have f7 := hX.out.frozen 7
      have hNp := Lib.hid (NM_of_R hM.out.r hll.out hM.out.z op s0 s1 s2 s3 mn mx)
      have hwb0 : w.heap.size < W0.heap.size := hX0.out.lt
      have hwb1 : b1 < W0.heap.size := hX1.out.lt
      go_upto_region 10 with (fail)
      have hXq : Hid (Blk (wp.setCell ⟨w.heap.size, 7, none⟩ (.slice A3 L.length c3)) w.heap.size 28 (boxC op s0 s1 s2 s3 mn mx (.slice A3 L.length c3))) := Lib.hid (hX.out.set_ 7 (.slice A3 L.length c3))
      have hX1q := Lib.hid (Blk.far (p := ⟨w.heap.size, 7, none⟩) hX1p.out (by simp only; omega) (.slice A3 L.length c3))
      have hBq := Lib.hid (hBw.out.setCell (p := ⟨w.heap.size, 7, none⟩) (Nat.le_refl _) (.slice A3 L.length c3))
      have hNq : Hid (NM (wp.setCell ⟨w.heap.size, 7, none⟩ (.slice A3 L.length c3)) W0.heap.size (fun _ => True) (.mk op s0 s1 s2 s3 mn mx L) (ndCells (.mk op s0 s1 s2 s3 mn mx L) (.slice A3 L.length c3))) :=
        Lib.hid (NM_mono (fun k hk => trivial) _ _ (NM_move (fun k hk => Below.heap_setCell _ ⟨w.heap.size, 7, none⟩ _ k (by have := hk.2.1; simp only; omega)) _ _ (NM_bound _ _ hNp.out)))
      clear hX hBw hc7 hc0 f7 hNp hX1p hM
      generalize wp.setCell ⟨w.heap.size, 7, none⟩ (.slice A3 L.length c3) = wq at *
      have e0 := hXq.out.cell 0
      have e1 := hXq.out.cell 1
      have e2 := hXq.out.cell 2
      have e3 := hXq.out.cell 3
      have e4 := hXq.out.cell 4
      have e5 := hXq.out.cell 5
      have e6 := hXq.out.cell 6
      have e7 := hXq.out.cell 7
      have g0 := hX1q.out.cell 0
      have g1 := hX1q.out.cell 1
      have g2 := hX1q.out.cell 2
      have g3 := hX1q.out.cell 3
      have g4 := hX1q.out.cell 4
      have g5 := hX1q.out.cell 5
      have g6 := hX1q.out.cell 6
      have g7 := hX1q.out.cell 7
      have f0 := hX1q.out.frozen 0
      have f1 := hX1q.out.frozen 1
      have f2 := hX1q.out.frozen 2
      have f3 := hX1q.out.frozen 3
      have f4 := hX1q.out.frozen 4
      have f5 := hX1q.out.frozen 5
      have f6 := hX1q.out.frozen 6
      have f7 := hX1q.out.frozen 7
      simp only [List.getElem?_toArray, List.getElem?_cons_zero, List.getElem?_cons_succ] at e0 e1 e2 e3 e4 e5 e6 e7 g0 g1 g2 g3 g4 g5 g6 g7
      go_wp2
      refine bodyPost_ret (results_cell_row rfl _ _ b1 28 _ (0, 0) _ rfl (set8 hX1q.out _ _ _ _ _ _ _ _) Try.underlying28 rfl rfl) rfl ?_
      rw [hbk.out]
      exact ⟨A3, L.length, c3, rfl, NM_lower hB0.out.size _ _ (NM_put8 hNq.out hwb1 _ _ _ _ _ _ _ _), below8 hBq.out hb1 _ _ _ _ _ _ _ _⟩
mutual
theorem back_c : ∀ n : Nd, BackOk n
  | .mk op s0 s1 s2 s3 mn mx ks => back_mk op s0 s1 s2 s3 mn mx ks (backs_c ks)
theorem backs_c : ∀ ks : List Nd, ∀ k ∈ ks, BackOk k
  | [], _, h => by cases h
  | k :: ks, x, h => by
    rcases List.mem_cons.1 h with e | h
    · exact e ▸ back_c k
    · exact backs_c ks x h
end
end Go.Proofs.Ytimhiacjoplkeaa
