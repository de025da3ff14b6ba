/- (*dfacode.writer).numbers: its walk. Own text. -/
import Derived.Test.YtokdggmobhnnpaaFa
import Derived.Test.YtokdggmobhnnpaaArr
import Derived.Outline
import Derived.Deep.RegionLawGrows
import Derived.Lib.Hide
namespace Go.Proofs.Ytokdggmobhnnpaa
open Go.RowKit Go.Proofs.Ytokdggmobhnnpaa.P Go.Proofs.Ytokdggmobhnnpaa.Enc Go.Proofs.YtokdggmobhnnpaaW.PrintWords Go.Proofs.YtokdggmobhnnpaaW.PrintLast Go.Proofs.YtokdggmobhnnpaaW.PrintMore
set_option linter.unusedVariables false
set_option linter.unusedSimpArgs false

/-- A row of bytes of the call's own, or one that is full and is only read (a constant's bytes). -/
def Row (w : World) (B0 : Nat) (v : Value) (xs : List Int) : Prop :=
  (Kd.int .u8).R 5 w B0 (fun _ => True) v xs ∨ (∃ ad, v = .slice (some ad) xs.length xs.length ∧ (Kd.int .u8).C w (some ad) xs.length xs ∧ B0 ≤ ad.block ∧ ∃ cells fr, w.heap[ad.block]? = some (.cells cells 5 fr))
theorem Row.below {w w1 : World} {B0 : Nat} {v : Value} {xs : List Int} (h : Row w B0 v xs) (hb : Below w.heap.size w w1) : Row w1 B0 v xs := by
  rcases h with h | ⟨ad, h1, h2, h3, cells, fr, h4⟩
  · exact .inl (Kd.R_below h hb)
  · exact .inr ⟨ad, h1, Kd.C_below h2 hb, h3, cells, fr, (hb.block _ (Array.getElem?_eq_some_iff.1 h4).1).trans h4⟩
theorem Row.typed {w : World} {B0 : Nat} {v : Value} {xs : List Int} (h : Row w B0 v xs) (k : Nat) (hk : v.ownBlock = some k) : ∃ cells fr, w.heap[k]? = some (.cells cells 5 fr) := by
  rcases h with h | ⟨ad, rfl, _, _, cells, fr, h4⟩
  · obtain ⟨inner, ho, _⟩ := h.2
    obtain ⟨cells, hc⟩ := own_typed ho k hk
    exact ⟨cells, _, hc⟩
  · have : ad.block = k := by simpa [Value.ownBlock] using hk
    subst this
    exact ⟨cells, fr, h4⟩
theorem Row.lt {w : World} {B0 : Nat} {v : Value} {xs : List Int} (h : Row w B0 v xs) (k : Nat) (hk : v.ownBlock = some k) : k < w.heap.size := by
  obtain ⟨cells, fr, hc⟩ := h.typed k hk
  exact (Array.getElem?_eq_some_iff.1 hc).1
theorem Row.reads {w : World} {B0 : Nat} {v : Value} {xs : List Int} (h : Row w B0 v xs) : ∃ A c, v = .slice A xs.length c ∧ xs.length ≤ c ∧ (Kd.int .u8).C w A xs.length xs := by
  rcases h with h | ⟨ad, rfl, h2, _⟩
  · exact Kd.R_reads h
  · exact ⟨some ad, _, rfl, Nat.le_refl _, h2⟩
theorem grown_none {w w1 : World} (h : w.grownBy w1 none) (row : Option Nat) : w.grownBy w1 row := ⟨h.os, h.tape, h.output, h.size, fun i hi _ => h.block i hi (by simp)⟩
theorem C_cells {w : World} {ad : Addr} {xs : List Int} (h : (Kd.int .u8).C w (some ad) xs.length xs) : ∀ j u, (nums .u8 xs)[j]? = some u → w.cell? (ad.add j) = some u := by
  intro j u hu
  unfold nums at hu
  rw [List.getElem?_map] at hu
  obtain ⟨x, hx, rfl⟩ := Option.map_eq_some_iff.1 hu
  obtain ⟨hj, hjx⟩ := List.getElem?_eq_some_iff.1 hx
  obtain ⟨ad', e, hc⟩ := Kd.at_int h (j : Int) (by omega) (by omega)
  injection e with e
  subst e
  rw [Int.toNat_natCast] at hc
  rw [hc, show rd xs (j : Int) = x by simp [rd, hj, hjx]]
section
variable {P : Program} {ops : Array Oper} {o : Oper} {a : Act} {Q : Exit → Act → World → Prop} {Kc : Act → World → Prop}
theorem row_append {w0 W : World} {B0 : Nat} (hgd : o.guard = none) (s x : Operand) (ho : o.op = .call { callee := .builtin .append, args := #[s, x], argTypes := #[25, 25] })
    (ht : P.underlying 25 = some (.slice 5)) (hinfo : (P.info? 5).map (fun i => (i.zero, i.size, i.bytes)) = some (some (.int .u8 0), 1, 1))
    (v : Value) (xs ys : List Int) (A : Option Addr) (c : Nat) (hs : a.eval s = v) (hx : a.eval x = .slice A ys.length c) (hR : Row W B0 v xs) (hC : (Kd.int .u8).C W A ys.length ys) (hy : 0 < ys.length)
    (HB : Below B0 w0 W) (hbase : B0 ≤ W.heap.size) (hl : xs.length + ys.length ≤ 1000000000)
    (h : ∀ v1 w1, (Kd.int .u8).R 5 w1 B0 (fun _ => True) v1 (xs ++ ys) → Below B0 w0 w1 → W.grownBy w1 v.ownBlock → (v1.ownBlock = v.ownBlock ∨ ∃ b, v1.ownBlock = some b ∧ W.heap.size ≤ b) → Kc (a.put o.dst v1) w1) :
    if Region.wanted o (yielded ops a.tmps) = true then Oper.wp P o a W Kc Q else Kc (a.put o.dst undef) W := by
  have hw : Region.wanted o (yielded ops a.tmps) = true := by simp [Region.wanted, hgd]
  rcases hR with hR | ⟨ad, hv, hC1, hB1, _⟩
  · exact Kd.R_append_rows_step (Kd.int .u8) (w0 := w0) B0 hw s x 25 5 (.int .u8 0) 1 ho ht hinfo rfl (by decide) (by decide) v xs ys A _ c (fun _ => True) (fun _ => False) hs hx hR hC (fun _ _ h => h) (fun _ h => h.elim) (fun _ _ => trivial) HB hbase (by omega) h
  · obtain ⟨i0, hi, hzz⟩ := Option.map_eq_some_iff.1 hinfo
    simp only [Prod.mk.injEq] at hzz
    obtain ⟨hz0, hz1, hz2⟩ := hzz
    subst hv
    obtain ⟨ad2, rfl, _⟩ := hC.2.2 hy
    refine step_append_grows hgd s x 25 ho 5 i0 (.int .u8 0) 1 1 ht hi hz0 hz1 hz2 rfl (by decide) (some ad) xs.length xs.length (nums .u8 xs) hs (fun h => by cases h) (by rw [nums_length, Nat.mul_one]) (fun b e => by injection e with e; subst e; exact C_cells hC1)
      ad2 ys.length c (nums .u8 ys) hx (by rw [nums_length, Nat.mul_one]) (C_cells hC) (fun u hu => by obtain ⟨y, _, rfl⟩ := List.mem_map.1 hu; rfl) (by omega) (by simp only [maxLen]; omega) (by omega) ?_
    intro v' w' hown hgrow
    have hR' : (Kd.int .u8).R 5 w' B0 (fun _ => True) v' (xs ++ ys) := by
      refine Kd.R_lower (Kd.R_of_own (ok := fun _ => True) ?_ (fun _ _ => trivial)) hbase
      rw [List.length_append]
      have e : encs (Value.int .u8) (xs ++ ys) = nums .u8 xs ++ nums .u8 ys := by simp [encs, nums]
      rw [e]
      exact hown
    refine h v' w' hR' (HB.grown hgrow hbase (fun k hk => by cases hk)) (grown_none hgrow _) (.inr ?_)
    rcases hown.2 with ⟨hn, he⟩ | ⟨g, cap, cur, rfl, hg, _⟩
    · exfalso
      omega
    · exact ⟨g, rfl, hg⟩
end
/-- A writer: its block, the row of bytes that it owns, what has been kept since W, what lies below B0. -/
structure WrAt (W w0 wr : World) (B0 g : Nat) (row : Option Nat) (v : Value) (xs : List Int) : Prop where
  blk : Blk wr g 53 #[v]
  r : Row wr B0 v xs
  b : Below B0 w0 wr
  k : KeepBut W wr g row
  o : v.ownBlock = row ∨ ∃ b, v.ownBlock = some b ∧ W.heap.size ≤ b
theorem below_own {B0 g : Nat} {w0 w : World} (h : Below B0 w0 w) (hg : B0 ≤ g) (u : Value) : Below B0 w0 (w.setCell ⟨g, 0, none⟩ u) := h.setCell hg u
theorem WrAt.below {W w0 wr w1 : World} {B0 g : Nat} {row : Option Nat} {v : Value} {xs : List Int} (h : WrAt W w0 wr B0 g row v xs) (hB : B0 ≤ wr.heap.size) (hb : Below wr.heap.size wr w1) : WrAt W w0 w1 B0 g row v xs :=
  ⟨h.blk.below hb h.blk.lt, h.r.below hb, below_then h.b hB hb, ⟨Nat.le_trans h.k.1 hb.size, fun i hi h1 h2 => (hb.block i (Nat.lt_of_lt_of_le hi h.k.1)).trans (h.k.2 i hi h1 h2)⟩, h.o⟩
/-- The row's block is none of type 53. -/
theorem own_ne {w : World} {B0 g : Nat} {v : Value} {xs : List Int} {cs : Array Value} {t : TypeId} (ht : t ≠ 5) (h : Row w B0 v xs) (hb : Blk w g t cs) : ∀ k, v.ownBlock = some k → k ≠ g := by
  intro k hk he
  subst he
  obtain ⟨cells, fr, hc⟩ := h.typed k hk
  unfold Blk at hb
  rw [hc] at hb
  injection hb with hb
  injection hb with _ hb
  exact ht hb.symm
/-- The row has been appended to, and the writer's cell is the new one. -/
theorem WrAt.put {W w0 w1 w2 : World} {B0 g : Nat} {row : Option Nat} {v v1 : Value} {xs ys : List Int} (h : WrAt W w0 w1 B0 g row v xs) (hg : B0 ≤ g)
    (h1 : (Kd.int .u8).R 5 w2 B0 (fun _ => True) v1 ys) (h2 : Below B0 w0 w2) (h3 : w1.grownBy w2 v.ownBlock) (h4 : v1.ownBlock = v.ownBlock ∨ ∃ b, v1.ownBlock = some b ∧ w1.heap.size ≤ b) :
    WrAt W w0 (w2.setCell ⟨g, 0, none⟩ v1) B0 g row v1 ys := by
  have hne := own_ne (by decide) h.r h.blk
  have hb2 : Blk w2 g 53 #[v] := (h3.block g h.blk.lt (fun e => hne g e.symm rfl)).trans h.blk
  have hne1 := own_ne (by decide) (.inl h1) hb2
  refine ⟨hb2.set_ 0 v1, ?_, h2.setCell hg v1, ⟨?_, fun i hi hi1 hi2 => ?_⟩, ?_⟩
  · exact .inl <| Kd.R_far (Kd.R_tight rfl h1 |> fun h => Kd.R_mono h (ok' := fun k => some k = v1.ownBlock) (fun _ hk => hk)) (p := ⟨g, 0, none⟩) (fun k hk => hne1 k hk.symm) v1 |> fun h => Kd.R_mono h (fun _ _ => trivial)
  · have := h.k.1; have := h3.size; simp; omega
  · have e1 : (w2.setCell ⟨g, 0, none⟩ v1).heap[i]? = w2.heap[i]? := Below.heap_setCell w2 ⟨g, 0, none⟩ v1 i hi1
    have e2 : w2.heap[i]? = w1.heap[i]? := h3.block i (Nat.lt_of_lt_of_le hi h.k.1) (fun e => by
      rcases h.o with ho | ⟨b, ho, hbb⟩
      · exact hi2 (e.trans ho)
      · rw [ho] at e; injection e with e; omega)
    exact (e1.trans e2).trans (h.k.2 i hi hi1 hi2)
  · rcases h4 with h4 | ⟨b, h4, hb⟩
    · rw [h4]; exact h.o
    · exact .inr ⟨b, h4, Nat.le_trans h.k.1 hb⟩
theorem cell_heap {w w' : World} {p : Addr} (h : w'.heap[p.block]? = w.heap[p.block]?) : w'.cell? p = w.cell? p := by
  unfold World.cell?; rw [h]
theorem keep_cell {W wr : World} {g : Nat} {row : Option Nat} {p : Addr} {u : Value} (h : KeepBut W wr g row) (hc : W.cell? p = some u) (h1 : p.block ≠ g) (h2 : some p.block ≠ row) : wr.cell? p = some u :=
  (cell_heap (h.2 p.block (World.block_lt_of_cell? W p hc) h1 h2)).trans hc
theorem add_blk (p : Addr) (i : Nat) : (p.add i).block = p.block := by unfold Addr.add; split <;> rfl
theorem take_flat (ns : List Int) (i : Nat) (h : i < ns.length) : ((ns.take (i + 1)).flatMap fun n => num n.toNat) = ((ns.take i).flatMap fun n => num n.toNat) ++ num (ns[i]).toNat := by
  rw [List.take_succ_eq_append_getElem h, List.flatMap_append]; simp
theorem take_flat_le (ns : List Int) (i : Nat) : ((ns.take i).flatMap fun n => num n.toNat).length ≤ (ns.flatMap fun n => num n.toNat).length := by
  conv => rhs; rw [← List.take_append_drop i ns, List.flatMap_append, List.length_append]
  omega
theorem WrAt.cellg {W w0 w1 w2 : World} {B0 g : Nat} {row : Option Nat} {v : Value} {xs : List Int} (h : WrAt W w0 w1 B0 g row v xs) (h3 : w1.grownBy w2 v.ownBlock) : w2.cell? ⟨g, 0, none⟩ = some v ∧ w2.frozen? ⟨g, 0, none⟩ = false := by
  have hne := own_ne (by decide) h.r h.blk
  have hb2 : Blk w2 g 53 #[v] := (h3.block g h.blk.lt (fun e => hne g e.symm rfl)).trans h.blk
  exact ⟨hb2.cell 0, hb2.frozen 0⟩
theorem numK {n : Int} (h0 : 0 ≤ n) (h1 : n < 18446744073709551616) (w : World) : Calls Try.prog 13 #[.int .u64 n] w fun e w' => ∃ v0_ : Value, e = .returned (v0_) ∧ Kd.R (Kd.int .u8) 5 w' w.heap.size (fun _ => True) v0_ (num n.toNat) ∧ Below w.heap.size w w' :=
  dfacode_Number.calls 11 n _ w (number_f n h0 h1 11 (Nat.le_refl _))

set_option maxRecDepth 20000 in
set_option maxHeartbeats 1000000 in
theorem numbers_c {W w0 : World} {B0 g : Nat} {v : Value} {xs : List Int} (hW : WrAt W w0 W B0 g v.ownBlock v xs) (hg : B0 ≤ g) (A : Option Addr) (c : Nat) (ns : List Int) (hR : (Kd.int .u64).C W A ns.length ns)
    (hns : ∀ n ∈ ns, 0 ≤ n ∧ n < 18446744073709551616) (hrow : ∀ ad, A = some ad → ad.block ≠ g ∧ some ad.block ≠ v.ownBlock) (hl : xs.length + (ns.flatMap fun n => num n.toNat).length ≤ 1000000000) :
    Calls Try.prog 23 #[.pointer (some ⟨g, 0, none⟩), .slice A ns.length c] W fun e w' => ∃ v1, e = .returned (.tuple #[]) ∧ WrAt W w0 w' B0 g v.ownBlock v1 (xs ++ ns.flatMap fun n => num n.toNat) := by
  have hWH := Lib.hid hW
  have hlen : ns.length ≤ 9223372036854775807 := hR.2.1
  go_enter Try.func23, Try.ntmps23
  have hflat := Lib.hid (take_flat ns)
  have hfle := Lib.hid (take_flat_le ns)
  have hfull : Hid ((ns.take ns.length).flatMap (fun n => num n.toNat) = ns.flatMap fun n => num n.toNat) := by rw [List.take_length]; exact Lib.hid rfl
  have hw0 := Lib.hid (show ((ns.take 0).flatMap fun n => num n.toNat) = [] by simp)
  have hRH := Lib.hid hR
  have hnsH := Lib.hid hns
  have hrowH := Lib.hid hrow
  clear hR hns hrow hW
  go_wp2
  go_loopw [8] (fun ii wr => ∃ (i : Nat) (v1 : Value), i ≤ ns.length ∧ ii = .int .i64 i ∧ Hid (WrAt W w0 wr B0 g v.ownBlock v1 (xs ++ (ns.take i).flatMap fun n => num n.toNat))) (fun ii _ => ns.length - (intOf ii).toNat)
  case atStart => exact ⟨0, v, by omega, rfl, Lib.hid (by rw [hw0.out, List.append_nil]; exact hWH.out)⟩
  case round =>
    obtain ⟨i, v1, hi, rfl, hA⟩ := hrel
    by_cases hlt : i < ns.length
    · have hd : decide ((i : Int) < (ns.length : Int)) = true := decide_eq_true (by omega)
      obtain ⟨ad, hAd, hc0⟩ := Kd.at_int hRH.out (i : Int) (by omega) (by omega)
      have hrw := hrowH.out ad hAd
      subst hAd
      have en : rd ns (i : Int) = ns[i] := by simp [rd, hlt]
      rw [Int.toNat_natCast, en] at hc0
      have hc := keep_cell hA.out.k hc0 (p := ad.add i) (by rw [add_blk]; exact hrw.1) (by rw [add_blk]; exact hrw.2)
      have hnb := hnsH.out ns[i] (List.getElem_mem hlt)
      have hfl := hflat.out i hlt
      have hll := hfle.out (i + 1)
      rw [hfl, List.length_append] at hll
      have hflH := Lib.hid hfl
      clear hc0 hfl hrw en
      generalize ns[i] = n at *
      have hA1 := hA.out
      have hst : Hid (xs ++ ((ns.take (i + 1)).flatMap fun n => num n.toNat) = (xs ++ (ns.take i).flatMap fun n => num n.toNat) ++ num n.toNat) := by rw [hflH.out, ← List.append_assoc]; exact Lib.hid rfl
      have hlz : (xs ++ (ns.take i).flatMap fun n => num n.toNat).length + (num n.toNat).length ≤ 1000000000 := by rw [List.length_append]; omega
      clear hflH hll
      generalize xs ++ (ns.take i).flatMap (fun n => num n.toNat) = ys at *
      go_wp2
      have hcv := hA1.blk.cell 0
      have hfr := hA1.blk.frozen 0
      have hbw : B0 ≤ wr.heap.size := Nat.le_trans hg (Nat.le_of_lt hA1.blk.lt)
      refine start_ (n := 11) (S := (fun w' => w'.cell? ⟨g, 0, none⟩ = some v1)) (ds := [10]) #[false, false, false, false, false, false, false, false, false, false, false] (by kernel_rfl) rfl rfl ?_ (fun hHeld => ?_)
      · exact hcv
      have hA2 := hA1.below hbw (below_drew1 (Below.refl _ _))
      have hbw2 : B0 ≤ wr.drew.heap.size := hbw
      generalize wr.drew = wa at *
      refine pure_ (i := 0) (N := (some 12)) (v := ?_) (a' := ?_) #[true, false, false, false, false, false, false, false, false, false, false] rfl rfl (by kernel_rfl) (fun _ _ _ h => h) (Or.inl ⟨by rfl, ?_⟩) ?_ ?_
      rotate_left
      · intro w'
        go_simp
        with_reducible rfl
      rotate_left
      · simp only [Act.put, List.setIfInBounds_toArray, List.set_cons_zero, List.set_cons_succ, i64_w, i32_w]
        rfl
      refine pure_ (i := 1) (N := (some 13)) (v := ?_) (a' := ?_) #[true, true, false, false, false, false, false, false, false, false, false] rfl rfl (by kernel_rfl) (fun _ _ _ h => h) (Or.inl ⟨by rfl, ?_⟩) ?_ ?_
      rotate_left
      · intro w'
        go_simp
        with_reducible rfl
      rotate_left
      · simp only [Act.put, List.setIfInBounds_toArray, List.set_cons_zero, List.set_cons_succ, i64_w, i32_w]
        rfl
      refine pure_ (i := 2) (N := (some 14)) (v := ?_) (a' := ?_) #[true, true, true, false, false, false, false, false, false, false, false] rfl rfl (by kernel_rfl) (fun _ _ _ h => h) (Or.inl ⟨by rfl, ?_⟩) ?_ ?_
      rotate_left
      · intro w'
        go_simp
        with_reducible rfl
      rotate_left
      · simp only [Act.put, List.setIfInBounds_toArray, List.set_cons_zero, List.set_cons_succ, i64_w, i32_w]
        rfl
      refine pure_ (i := 3) (N := (some 15)) (v := ?_) (a' := ?_) #[true, true, true, true, false, false, false, false, false, false, false] rfl rfl (by kernel_rfl) (fun _ _ _ h => h) (Or.inl ⟨by rfl, ?_⟩) ?_ ?_
      rotate_left
      · intro w'
        go_simp
        with_reducible rfl
      rotate_left
      · simp only [Act.put, List.setIfInBounds_toArray, List.set_cons_zero, List.set_cons_succ, i64_w, i32_w]
        rfl
      refine take_ (i := 4) (N := (some 16)) (v := ?_) (a' := ?_) #[true, true, true, true, true, false, false, false, false, false, false] rfl rfl (by kernel_rfl) (fun _ _ _ h => h) (Or.inl ⟨by rfl, ?_⟩) hHeld ?_ ?_
      rotate_left
      · intro w' hSw
        go_simp
        with_reducible rfl
      rotate_left
      · simp only [Act.put, List.setIfInBounds_toArray, List.set_cons_zero, List.set_cons_succ, i64_w, i32_w]
        rfl
      refine pure_ (i := 5) (N := (some 17)) (v := ?_) (a' := ?_) #[true, true, true, true, true, true, false, false, false, false, false] rfl rfl (by kernel_rfl) (fun _ _ _ h => h) (Or.inl ⟨by rfl, ?_⟩) ?_ ?_
      rotate_left
      · intro w'
        go_simp
        with_reducible rfl
      rotate_left
      · simp only [Act.put, List.setIfInBounds_toArray, List.set_cons_zero, List.set_cons_succ, i64_w, i32_w]
        rfl
      refine one_ (i := 6) (N := (some 18)) #[true, true, true, true, true, true, true, false, false, false, false] rfl rfl (by kernel_rfl) (by decide) (fun K hK => ?_)
      refine goes_ Try.func13 (by kernel_rfl) rfl #[.int .u64 n] (by rfl) rfl rfl (by simp only [List.map_toArray, List.map_cons, List.map_nil]; rfl) ?_
      refine (numK hnb.1 hnb.2 _).mono ?_
      rintro e wb ⟨v2, rfl, ho2, hb2⟩
      refine ⟨_, rfl, ?_⟩
      have hA3 := hA2.below hbw2 hb2
      have hbw3 : B0 ≤ wb.heap.size := Nat.le_trans hbw2 hb2.size
      refine hK.out _ _ (hA3.blk.cell 0) (fun hHeld => ?_)
      clear hK K
      refine norm_ (a' := ?_) ?_ ?_
      rotate_left
      · show Act.put _ (some 18) _ = _
        simp only [Act.put, List.setIfInBounds_toArray, List.set_cons_zero, List.set_cons_succ, i64_w, i32_w]
        rfl
      obtain ⟨A2, c2, hv2, _, hC2⟩ := Kd.R_reads ho2
      subst hv2
      refine one_ (i := 7) (N := (some 19)) #[true, true, true, true, true, true, true, true, false, false, false] rfl rfl (by kernel_rfl) (by decide) (fun K hK => ?_)
      refine row_append (w0 := w0) rfl (.tmp 16) (.tmp 18) rfl Try.underlying25 info5 v1 ys (num n.toNat) A2 c2 rfl rfl hA3.r hC2 (num_len_pos _) hA3.b hbw3 (by omega) ?_
      intro v3 wc ho3 hb3 hg3 hat3
      obtain ⟨A3, c3, hv3⟩ := Kd.R_slice ho3
      rw [List.length_append] at hv3
      subst hv3
      have hA4 := hA3.put hg ho3 hb3 hg3 hat3
      obtain ⟨hcg, hfg⟩ := hA3.cellg hg3
      refine hK.out _ _ hcg (fun hHeld => ?_)
      clear hK K
      refine norm_ (a' := ?_) ?_ ?_
      rotate_left
      · show Act.put _ (some 19) _ = _
        simp only [Act.put, List.setIfInBounds_toArray, List.set_cons_zero, List.set_cons_succ, i64_w, i32_w]
        rfl
      refine pure_ (i := 8) (N := (some 20)) (v := ?_) (a' := ?_) #[true, true, true, true, true, true, true, true, true, false, false] rfl rfl (by kernel_rfl) (fun _ _ _ h => h) (Or.inl ⟨by rfl, ?_⟩) ?_ ?_
      rotate_left
      · intro w'
        go_simp
        with_reducible rfl
      rotate_left
      · simp only [Act.put, List.setIfInBounds_toArray, List.set_cons_zero, List.set_cons_succ, i64_w, i32_w]
        rfl
      refine pure_ (i := 9) (N := (some 21)) (v := ?_) (a' := ?_) #[true, true, true, true, true, true, true, true, true, true, false] rfl rfl (by kernel_rfl) (fun _ _ _ h => h) (Or.inl ⟨by rfl, ?_⟩) ?_ ?_
      rotate_left
      · intro w'
        go_simp
        with_reducible rfl
      rotate_left
      · simp only [Act.put, List.setIfInBounds_toArray, List.set_cons_zero, List.set_cons_succ, i64_w, i32_w]
        rfl
      refine last_ (i := 10) (N := none) #[true, true, true, true, true, true, true, true, true, true, true] rfl rfl (by kernel_rfl) (by decide) (fun K hK => ?_)
      refine skip_ (w1 := ?_) (by rfl) rfl ?_ ?_
      rotate_left
      · go_simp
        rfl
      refine hK.out _ _ ?_
      clear hK K
      refine done_ (by kernel_rfl) ?_
      have hA5 := Lib.hid hA4
      clear hA4 hA3 hA2 hA1 hA hHeld hcg hfg hg3 hat3 hb3 ho3 hC2 ho2 hcv hfr hc
      go_wp2
      go_roundw
      case rel => exact ⟨i + 1, _, by omega, by go_num, by rw [hst.out]; exact hA5⟩
      case measure => simp [intOf]; omega
    · have hd : decide ((i : Int) < (ns.length : Int)) = false := decide_eq_false (by omega)
      obtain rfl : i = ns.length := by omega
      rw [hfull.out] at hA
      go_wp2
      go_end0
      exact ⟨v1, rfl, hA.out⟩
end Go.Proofs.Ytokdggmobhnnpaa
