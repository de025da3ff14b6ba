/- match.Cut: its walk. Own text. -/
import Derived.Test.YtimhiacjoplkeaaFst
namespace Go.Proofs.Ytimhiacjoplkeaa
open Go.RowKit Go.Proofs.Ytimhiacjoplkeaa.P Go.Proofs.YtimhiacjoplkeaaW.PrintWords Go.Proofs.YtimhiacjoplkeaaW.PrintLast
set_option linter.unusedVariables false
set_option linter.unusedSimpArgs false
theorem info9' : (Try.prog.info? 9).map (fun i => (i.zero, i.size, i.bytes)) = some (some (.string ⟨#[]⟩), 1, 16) := by kernel_rfl
theorem own_gt {B N : Nat} {v v1 : Value} (hat : v1.ownBlock = v.ownBlock ∨ ∃ b, v1.ownBlock = some b ∧ N ≤ b) (h : ∀ k, v.ownBlock = some k → B < k) (hB : B < N) : ∀ k, v1.ownBlock = some k → B < k := fun k hk => by
  rcases hat with e | ⟨b, e, hb⟩
  · exact h k (by rw [← e]; exact hk)
  · rw [hk] at e; injection e with e; omega
def cutOf (s : ByteArray) (n : Nd) : List ByteArray := cutP (fun i : Nat => longP s n (i : Int)) s (s.size + 1) 0 0
set_option maxRecDepth 20000 in
set_option maxHeartbeats 2000000 in
theorem cut_c (s : ByteArray) (hs : s.size ≤ 1000000) (n : Nd) (hwf : Wf n) (w : World) (v : Value) (hn : IsN w n v) :
    Calls Try.prog 12 #[v, .string s] w fun e w' => ∃ v', e = .returned v' ∧ Kd.string.R 9 w' w.heap.size (fun _ => True) v' (cutOf s n) ∧ Below w.heap.size w w' := by
  have hlong := Lib.hid (fun (i : Nat) w v (hn : IsN w n v) => longest_c s hs n hwf (i : Int) w v hn)
  have hle := Lib.hid (fun (i : Nat) (hi : i ≤ s.size) h => longP_le s n i hi h)
  have hnH := Lib.hid hn
  obtain ⟨A, c, rfl, hc, hlen, hK⟩ := hn
  have hN1 : Hid (∀ w1, Below w.heap.size w w1 → IsN w1 n (ndVal n (.slice A n.kids.length c))) := Lib.hid (fun w1 hb => hnH.out.below hb)
  clear hK hnH
  unfold cutOf
  obtain ⟨G, hG⟩ : ∃ G : Nat → Int × Bool, G = fun i : Nat => longP s n (i : Int) := ⟨_, rfl⟩
  have hlong2 : Hid (∀ (i : Nat) w v (hn : IsN w n v), Calls Try.prog 20 #[v, .string s, .int .i64 (i : Int)] w fun e w' => e = .returned (.tuple #[.int .i64 (G i).1, .bool (G i).2]) ∧ Below w.heap.size w w') := Lib.hid (by rw [hG]; exact hlong.out)
  have hle2 : Hid (∀ i : Nat, i ≤ s.size → (G i).2 = true → ∃ j : Nat, (G i).1 = (j : Int) ∧ i ≤ j ∧ j ≤ s.size) := Lib.hid (fun i hi h => by
    subst hG
    obtain ⟨j, h1, h2, h3, _⟩ := hle.out i hi h
    exact ⟨j, h1, h2, h3⟩)
  rw [← hG]
  clear hG hlong hle
  show Calls Try.prog 12 #[.agg (boxC n.op n.s0 n.s1 n.s2 n.s3 n.mn n.mx (.slice A n.kids.length c)), .string s] w _
  go_enter Try.func12, Try.ntmps12
  go_wp2
  have hX := Lib.hid (Blk.new w 28 (boxC n.op n.s0 n.s1 n.s2 n.s3 n.mn n.mx (.slice A n.kids.length c)))
  have hB := Lib.hid (below_alloc (Below.refl w.heap.size w) (.cells (boxC n.op n.s0 n.s1 n.s2 n.s3 n.mn n.mx (.slice A n.kids.length c)) 28))
  generalize w.alloc (.cells (boxC n.op n.s0 n.s1 n.s2 n.s3 n.mn n.mx (.slice A n.kids.length c)) 28) = W0 at *
  go_loopw [5, 6, 7] (fun oo dd ii wr => ∃ (i dn k : Nat) (l : List ByteArray), ii = .int .i64 i ∧ dd = .int .i64 dn ∧ dn ≤ i ∧ i ≤ s.size ∧ s.size + 1 ≤ k + i ∧ l.length ≤ i ∧ Hid (cutP G s (s.size + 1) 0 0 = l ++ cutP G s k i dn) ∧ Hid (Kd.string.R 9 wr w.heap.size (fun _ => True) oo l) ∧ Hid (Blk wr w.heap.size 28 (boxC n.op n.s0 n.s1 n.s2 n.s3 n.mn n.mx (.slice A n.kids.length c))) ∧ Hid (Below w.heap.size w wr) ∧ Hid (∀ k, oo.ownBlock = some k → w.heap.size < k)) (fun _ _ ii _ => s.size + 1 - (intOf ii).toNat)
  case atStart => exact ⟨0, 0, s.size + 1, [], rfl, rfl, by omega, by omega, by omega, by simp, Lib.hid (by simp), Lib.hid (Kd.R_nil _ _ _ _ _), hX, hB, Lib.hid (fun k h => by cases h)⟩
  case round =>
    clear hX hB
    obtain ⟨i, dn, k, l, rfl, rfl, hdi, his, hk, hll, hE, hR, hX, hB, hO⟩ := hrel
    by_cases hlt : i < s.size
    · have hd : decide ((i : Int) < (s.size : Int)) = true := decide_eq_true (by omega)
      obtain ⟨k', rfl⟩ : ∃ k', k = k' + 1 := ⟨k - 1, by omega⟩
      have d0 := hX.out.cell 0
      have d1 := hX.out.cell 1
      have d2 := hX.out.cell 2
      have d3 := hX.out.cell 3
      have d4 := hX.out.cell 4
      have d5 := hX.out.cell 5
      have d6 := hX.out.cell 6
      have d7 := hX.out.cell 7
      simp only [List.getElem?_toArray, List.getElem?_cons_zero, List.getElem?_cons_succ] at d0 d1 d2 d3 d4 d5 d6 d7
      have hcall := hlong2.out i wr _ (hN1.out wr hB.out)
      have hle3 := hle2.out i his
      have hun : cutP G s (k' + 1) i dn = (if (G i).2 = false ∨ (G i).1 = (i : Int) then cutP G s k' (i + 1) dn else s.extract dn i :: cutP G s k' (G i).1.toNat (G i).1.toNat) := by
        show (if i < s.size then _ else _) = _
        rw [if_pos hlt]
      have hunH := Lib.hid (hE.out.trans (congrArg (l ++ ·) hun))
      have hw : IntKind.i64.wrap ((i : Int) + 1) = ((i + 1 : Nat) : Int) := by rw [IntKind.wrap_i64]; omega
      clear hun hE
      generalize G i = q at *
      obtain ⟨a, b⟩ := q
      simp only at hunH hcall hle3
      have hcallH := Lib.hid hcall
      clear hcall
      cases b with
      | false =>
        clear hle3
        go_wp2_with (go_at_call 20; refine hcallH.out.mono ?_; rintro e w2 ⟨rfl, hB2⟩; have hB2H := Lib.hid (below_then hB.out hB.out.size hB2); have hX2 := Lib.hid (hX.out.below hB2 hX.out.lt); have hR2 := Lib.hid (Kd.R_below hR.out hB2); clear hB2)
        go_roundw
        case rel => exact ⟨i + 1, dn, k', l, by go_num, rfl, by omega, by omega, by omega, by omega, Lib.hid (by rw [hunH.out]; simp), hR2, hX2, hB2H, hO⟩
        case measure => simp [intOf]; omega
      | true =>
        obtain ⟨j, rfl, hij, hjs⟩ := hle3 rfl
        by_cases hji : j = i
        · subst hji
          have hbe : ((j : Int) == (j : Int)) = true := by simp
          go_wp2_with (go_at_call 20; refine hcallH.out.mono ?_; rintro e w2 ⟨rfl, hB2⟩; have hB2H := Lib.hid (below_then hB.out hB.out.size hB2); have hX2 := Lib.hid (hX.out.below hB2 hX.out.lt); have hR2 := Lib.hid (Kd.R_below hR.out hB2); clear hB2)
          go_roundw
          case rel => exact ⟨j + 1, dn, k', l, by go_num, rfl, by omega, by omega, by omega, by omega, Lib.hid (by rw [hunH.out]; simp), hR2, hX2, hB2H, hO⟩
          case measure => simp [intOf]; omega
        · have hbe : ((j : Int) == (i : Int)) = false := beq_eq_false_iff_ne.2 (by omega)
          have hbe2 : ((j : Int) = (i : Int)) = False := eq_false (by omega)
          have hunJ : Hid (cutP G s (s.size + 1) 0 0 = (l ++ [s.extract dn i]) ++ cutP G s k' j j) := Lib.hid (by
            rw [hunH.out, if_neg (by rintro (h | h); exact absurd h (by simp); omega)]; simp)
          clear hunH
          have g1 : (dn : Int) ≤ (i : Int) := by omega
          have g2 : (i : Int) ≤ (s.size : Int) := by omega
          have g3 : dn ≤ i := hdi
          have g4 : i ≤ s.size := his
          obtain ⟨T, hT⟩ : ∃ T, s.extract dn i = T := ⟨_, rfl⟩
          have hTH := Lib.hid hT
          clear hT
          obtain ⟨A5, c5, e5⟩ := Kd.R_slice hR.out
          subst e5
          go_upto_region 8 with (go_at_call 20; refine hcallH.out.mono ?_; rintro e w2 ⟨rfl, hB2⟩; have hB2H := Lib.hid (below_then hB.out hB.out.size hB2); have hX2 := Lib.hid (hX.out.below hB2 hX.out.lt); have hR2 := Lib.hid (Kd.R_below hR.out hB2); clear hB2)
          have hsz2 : w.heap.size ≤ w2.heap.size := hB2H.out.size
          go_wp2_with ((with_reducible refine gate_builtin (b := .append) (xs := #[.tmp 30, .tmp 35]) rfl ?_); at_builtin; go_loud (refine Kd.R_append Kd.string (w0 := w) w.heap.size rfl (.tmp 30) (.tmp 35) 33 9 (.string ⟨#[]⟩) 16 rfl Try.underlying33 info9' rfl (by decide) (by decide) (.slice A5 l.length c5) l (s.extract dn i) [.string (s.extract dn i)] (fun _ => True) (fun _ => False) rfl rfl rfl (fun _ hk => hk.elim) (fun _ _ => trivial) hR2.out hB2H.out hsz2 (by omega) ?_; intro v9 w9 ho9 hb9 hg9 hat9; obtain ⟨A9, c9, hv9⟩ := Kd.R_slice ho9; rw [List.length_append, List.length_singleton] at hv9; subst hv9; have hR9 := Lib.hid ho9; have hB9 := Lib.hid hb9; have hX9 := Lib.hid (show Blk w9 w.heap.size 28 (boxC n.op n.s0 n.s1 n.s2 n.s3 n.mn n.mx (.slice A n.kids.length c)) from (hg9.block _ hX2.out.lt (fun e => by have := hO.out _ e.symm; omega)).trans hX2.out); have hO9 := Lib.hid (own_gt hat9 hO.out hX2.out.lt); clear ho9 hb9 hg9 hat9))
          go_roundw
          case rel => exact ⟨j, j, k', l ++ [s.extract dn i], rfl, rfl, by omega, hjs, by omega, by rw [List.length_append, List.length_singleton]; omega, hunJ, hR9, hX9, hB9, hO9⟩
          case measure => simp [intOf]; omega
    · have hd : decide ((i : Int) < (s.size : Int)) = false := decide_eq_false (by omega)
      obtain ⟨k', rfl⟩ : ∃ k', k = k' + 1 := ⟨k - 1, by omega⟩
      have hun : cutP G s (k' + 1) i dn = [s.extract dn s.size] := by
        show (if i < s.size then _ else _) = _
        rw [if_neg hlt]
      have hEE := Lib.hid (hE.out.trans (congrArg (l ++ ·) hun))
      clear hun hE
      have g2 : (dn : Int) ≤ (s.size : Int) := by omega
      have g4 : dn ≤ s.size := by omega
      obtain ⟨A5, c5, e5⟩ := Kd.R_slice hR.out
      subst e5
      have hsz2 : w.heap.size ≤ wr.heap.size := hB.out.size
      go_wp2_with ((with_reducible refine gate_builtin (b := .append) (xs := #[.tmp 39, .tmp 43]) rfl ?_); at_builtin; go_loud (refine Kd.R_append Kd.string (w0 := w) w.heap.size rfl (.tmp 39) (.tmp 43) 33 9 (.string ⟨#[]⟩) 16 rfl Try.underlying33 info9' rfl (by decide) (by decide) (.slice A5 l.length c5) l (s.extract dn s.size) [.string (s.extract dn s.size)] (fun _ => True) (fun _ => False) rfl rfl rfl (fun _ hk => hk.elim) (fun _ _ => trivial) hR.out hB.out hsz2 (by omega) ?_; intro v9 w9 ho9 hb9 hg9 hat9; have hR9 := Lib.hid ho9; have hB9 := Lib.hid hb9; clear ho9 hb9 hg9 hat9))
      go_ret
      exact ⟨_, rfl, by rw [hEE.out]; exact hR9.out, hB9.out⟩
end Go.Proofs.Ytimhiacjoplkeaa
