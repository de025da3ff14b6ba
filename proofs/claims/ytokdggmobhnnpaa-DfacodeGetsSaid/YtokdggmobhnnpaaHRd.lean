/- (*dfacode.reader).number, byte, count: their walks. Own text. -/
import Derived.Test.YtokdggmobhnnpaaHNum
namespace Go.Proofs.Ytokdggmobhnnpaa
open Go.RowKit Go.Proofs.Ytokdggmobhnnpaa.P Go.Proofs.Ytokdggmobhnnpaa.Enc Go.Proofs.YtokdggmobhnnpaaW.PrintWords Go.Proofs.YtokdggmobhnnpaaW.PrintLast Go.Proofs.YtokdggmobhnnpaaW.PrintMore
set_option linter.unusedVariables false
set_option linter.unusedSimpArgs false

theorem addr_add (a : Addr) (x i : Nat) : (a.add x).add i = a.add (x + i) := by
  by_cases hx : x = 0
  · subst hx; simp [Addr.add]
  · by_cases hi : i = 0
    · subst hi; simp [Addr.add]
    · simp [Addr.add, hx, hi, Nat.add_assoc]
/-- A reader: its block; what is left of the bytes lies below B0, and has room behind it. -/
structure RdAt (w : World) (g B0 : Nat) (a : Addr) (c : Nat) (p : Rd) : Prop where
  blk : Blk w g 69 #[.slice (some a) p.rest.length c, .bool p.bad]
  room : p.rest.length < c
  cells : (Kd.int .u8).C w (some a) p.rest.length p.rest
  low : a.block < B0
  bd : ∀ x ∈ p.rest, 0 ≤ x ∧ x ≤ 255
  len : p.rest.length ≤ 1000000000
theorem C_drop {w : World} {a : Addr} {xs : List Int} (h : (Kd.int .u8).C w (some a) xs.length xs) (k : Nat) (hk : k ≤ xs.length) : (Kd.int .u8).C w (some (a.add k)) (xs.drop k).length (xs.drop k) := by
  refine Kd.C_of_reads (d := (0 : Int)) ⟨rfl, by have := h.2.1; simp; omega, fun _ => ⟨_, rfl, fun j hj => ?_⟩⟩
  rw [List.length_drop] at hj
  obtain ⟨ad, e, hc⟩ := Kd.at_int h ((k + j : Nat) : Int) (by omega) (by omega)
  injection e with e
  subst e
  rw [Int.toNat_natCast] at hc
  rw [addr_add, hc]
  simp only [rd, Int.toNat_natCast, List.getD_eq_getElem?_getD, List.getElem?_drop]
theorem C_keep {w w' : World} {a : Addr} {n : Nat} {xs : List Int} (h : (Kd.int .u8).C w (some a) n xs) (hb : w'.heap[a.block]? = w.heap[a.block]?) : (Kd.int .u8).C w' (some a) n xs := by
  obtain rfl : xs.length = n := h.1
  refine Kd.C_of_reads (d := (0 : Int)) ⟨rfl, h.2.1, fun _ => ⟨_, rfl, fun j hj => ?_⟩⟩
  obtain ⟨ad, e, hc⟩ := Kd.at_int h (j : Int) (by omega) (by omega)
  injection e with e
  subst e
  rw [Int.toNat_natCast] at hc
  have e := cell_heap (w := w) (w' := w') (p := a.add j) (by rw [add_blk]; exact hb)
  rw [e, hc]
  simp only [rd, Int.toNat_natCast]
theorem RdAt.below {w w1 : World} {g B0 c : Nat} {a : Addr} {p : Rd} (h : RdAt w g B0 a c p) (hb : Below w.heap.size w w1) : RdAt w1 g B0 a c p :=
  ⟨h.blk.below hb h.blk.lt, h.room, Kd.C_below h.cells hb, h.low, h.bd, h.len⟩
/-- The reader has been turned. -/
theorem RdAt.turn {w w1 : World} {g B0 c : Nat} {a : Addr} {p : Rd} (h : RdAt w g B0 a c p) (hg : B0 ≤ g) (k c' : Nat) (p' : Rd) (hk : k ≤ p.rest.length) (hp : p'.rest = p.rest.drop k) (hc : p'.rest.length < c')
    (hb : Blk w1 g 69 #[.slice (some (a.add k)) p'.rest.length c', .bool p'.bad]) (hgr : w.grownBy w1 (some g)) : RdAt w1 g B0 (a.add k) c' p' := by
  have hlow := h.low
  refine ⟨hb, hc, ?_, by rw [add_blk]; exact hlow, fun x hx => h.bd x (by rw [hp] at hx; exact List.mem_of_mem_drop hx), by rw [hp, List.length_drop]; have := h.len; omega⟩
  rw [hp]
  have hC := C_drop h.cells k hk
  refine C_keep hC ?_
  rw [add_blk]
  rcases Nat.lt_or_ge a.block w.heap.size with h1 | h1
  · exact hgr.block a.block h1 (fun e => by injection e with e; omega)
  · have := h.blk.lt; omega
theorem grown_set {W w1 : World} {g : Nat} (h : W.grownBy w1 (some g)) (j : Nat) (u : Value) : W.grownBy (w1.setCell ⟨g, j, none⟩ u) (some g) :=
  ⟨h.os, h.tape, h.output, by simpa [World.setCell] using h.size, fun i hi hne => (Below.heap_setCell w1 ⟨g, j, none⟩ u i (fun e => hne (by rw [e]))).trans (h.block i hi hne)⟩
theorem grown_drewN (W : World) (n : Nat) (row : Option Nat) : W.grownBy (W.drewN n) row := ⟨rfl, rfl, rfl, Nat.le_refl _, fun _ _ _ => rfl⟩
theorem grown_trans {W w1 w2 : World} {row : Option Nat} (h : W.grownBy w1 row) (k : w1.grownBy w2 row) : W.grownBy w2 row :=
  ⟨k.os.trans h.os, k.tape.trans h.tape, k.output.trans h.output, Nat.le_trans h.size k.size, fun i hi hne => (k.block i (Nat.lt_of_lt_of_le hi h.size) hne).trans (h.block i hi hne)⟩
theorem grown_below {W w1 : World} (h : Below W.heap.size W w1) (row : Option Nat) : W.grownBy w1 row := ⟨h.os, h.tape, h.output, h.size, fun i hi _ => h.block i hi⟩
theorem blk_two {W : World} {g t : Nat} {x y : Value} (h : Blk W g t #[x, y]) (u v : Value) : Blk ((W.setCell ⟨g, 0, none⟩ u).setCell ⟨g, 1, none⟩ v) g t #[u, v] := (h.set_ 0 u).set_ 1 v
theorem dec_le : ∀ (b : List Int) (i n k : Nat), dec i b = some (n, k) → 1 ≤ k ∧ k ≤ b.length := by
  intro b
  induction b with
  | nil => intro i n k h; simp [dec] at h
  | cons c r ih =>
    intro i n k h
    simp only [dec] at h
    split at h
    · cases h
    · split at h
      · split at h
        · cases h
        · split at h
          · cases h
          · simp only [Option.some.injEq, Prod.mk.injEq] at h; simp only [List.length_cons]; omega
      · split at h
        · rename_i m k' hd
          simp only [Option.some.injEq, Prod.mk.injEq] at h
          have := ih _ _ _ hd
          simp only [List.length_cons]; omega
        · cases h

set_option maxRecDepth 20000 in
set_option maxHeartbeats 1000000 in
theorem number_c {W : World} {g B0 c : Nat} {a : Addr} {p : Rd} (h : RdAt W g B0 a c p) (hg : B0 ≤ g) :
    Calls Try.prog 29 #[.pointer (some ⟨g, 0, none⟩)] W fun e w' => e = .returned (.int .u64 ((rnum p).1 : Nat)) ∧ (∃ a' c', RdAt w' g B0 a' c' (rnum p).2) ∧ W.grownBy w' (some g) := by
  have hH := Lib.hid h
  have hval := Lib.hid (value_f p.rest h.bd (by have := h.len; omega) (3 * p.rest.length + 1) (by omega))
  have hroom := h.room
  have hcs := Lib.hid h.cells
  have hc0 : W.cell? ⟨g, 0, none⟩ = some (.slice (some a) p.rest.length c) := h.blk.cell 0
  have hc1 : W.cell? ⟨g, 1, none⟩ = some (.bool p.bad) := h.blk.cell 1
  have hf0 := h.blk.frozen 0
  have hf1 := h.blk.frozen 1
  have hln := h.len
  cases hd : dec 0 p.rest with
  | none =>
    have hv : valL p.rest = (0, 0) := by unfold valL; rw [hd]
    rw [hv] at hval
    have hr : rnum p = (0, ⟨p.rest, true⟩) := by unfold rnum; rw [hd]
    rw [hr]
    clear hd h hr hv
    cases hpb : p.bad
    all_goals
      rw [hpb] at hc1
      go_enter Try.func29, Try.ntmps29
      go_wp2_with (go_at_call 11; refine (dfacode_Value.calls _ (some a) c p.rest 0 0 _ hcs.out (Nat.le_of_lt hroom) hval.out).mono ?_; rintro e w1 ⟨rfl, hdr⟩; obtain ⟨nd, rfl⟩ := hdr.out)
      go_ret
      have hgr : W.grownBy (((W.drewN nd).setCell ⟨g, 0, none⟩ (.slice (some a) p.rest.length c)).setCell ⟨g, 1, none⟩ (.bool true)) (some g) := grown_set (grown_set (grown_drewN W nd _) _ _) _ _
      exact ⟨rfl, ⟨_, _, hH.out.turn hg 0 c ⟨p.rest, true⟩ (Nat.zero_le _) rfl hroom (blk_two (show Blk (W.drewN nd) g 69 _ from hH.out.blk) _ _) hgr⟩, hgr⟩
  | some q =>
    obtain ⟨n, k⟩ := q
    have hv : valL p.rest = ((n : Int), (k : Int)) := by unfold valL; rw [hd]
    rw [hv] at hval
    have hr : rnum p = (n, ⟨p.rest.drop k, p.bad⟩) := by unfold rnum; rw [hd]
    have hk := dec_le _ _ _ _ hd
    rw [hr]
    clear hd h hr hv
    have hke : ((k : Int) == 0) = false := by simp; omega
    cases hpb : p.bad
    all_goals
      rw [hpb] at hc1
      go_enter Try.func29, Try.ntmps29
      go_wp2_with (go_at_call 11; refine (dfacode_Value.calls _ (some a) c p.rest _ _ _ hcs.out (Nat.le_of_lt hroom) hval.out).mono ?_; rintro e w1 ⟨rfl, hdr⟩; obtain ⟨nd, rfl⟩ := hdr.out)
      go_ret
    · have hgr : W.grownBy (((W.drewN nd).setCell ⟨g, 0, none⟩ (.slice (some (a.add k)) (p.rest.length - k) (c - k))).setCell ⟨g, 1, none⟩ (.bool false)) (some g) := grown_set (grown_set (grown_drewN W nd _) _ _) _ _
      exact ⟨rfl, ⟨_, _, hH.out.turn hg k (c - k) ⟨p.rest.drop k, false⟩ hk.2 rfl (by simp; omega) (by rw [List.length_drop]; exact blk_two (show Blk (W.drewN nd) g 69 _ from hH.out.blk) _ _) hgr⟩, hgr⟩
    · have hgr : W.grownBy (((W.drewN nd).setCell ⟨g, 0, none⟩ (.slice (some (a.add k)) (p.rest.length - k) (c - k))).setCell ⟨g, 1, none⟩ (.bool true)) (some g) := grown_set (grown_set (grown_drewN W nd _) _ _) _ _
      exact ⟨rfl, ⟨_, _, hH.out.turn hg k (c - k) ⟨p.rest.drop k, true⟩ hk.2 rfl (by simp; omega) (by rw [List.length_drop]; exact blk_two (show Blk (W.drewN nd) g 69 _ from hH.out.blk) _ _) hgr⟩, hgr⟩
theorem rnum_lt (p : Rd) (hb : ∀ x ∈ p.rest, 0 ≤ x ∧ x ≤ 255) : (rnum p).1 < 18446744073709551616 := by
  unfold rnum
  cases hd : dec 0 p.rest with
  | none => simp
  | some q => exact (dec_spec p.rest 0 q.1 q.2 hb hd).2.2.1
theorem RdAt.setbad {w w1 : World} {g B0 c : Nat} {a : Addr} {p : Rd} (h : RdAt w g B0 a c p) (hg : B0 ≤ g) : RdAt (w.setCell ⟨g, 1, none⟩ (.bool true)) g B0 a c ⟨p.rest, true⟩ ∧ w.grownBy (w.setCell ⟨g, 1, none⟩ (.bool true)) (some g) := by
  have hgr : w.grownBy (w.setCell ⟨g, 1, none⟩ (.bool true)) (some g) := grown_set (World.grownBy.refl w _) _ _
  have h2 := h.turn hg 0 c ⟨p.rest, true⟩ (Nat.zero_le _) rfl h.room (h.blk.set_ 1 (.bool true)) hgr
  exact ⟨h2, hgr⟩
set_option maxRecDepth 20000 in
set_option maxHeartbeats 1000000 in
theorem count_c {W : World} {g B0 c : Nat} {a : Addr} {p : Rd} (h : RdAt W g B0 a c p) (hg : B0 ≤ g) (L : Nat) (hL : L ≤ 1000000000) :
    Calls Try.prog 31 #[.pointer (some ⟨g, 0, none⟩), .int .i64 (L : Int)] W fun e w' => e = .returned (.int .i64 ((rcount p L).1 : Nat)) ∧ (∃ a' c', RdAt w' g B0 a' c' (rcount p L).2) ∧ W.grownBy w' (some g) := by
  have hH := Lib.hid h
  have hlt := rnum_lt p h.bd
  have hw1 : IntKind.u64.wrap (L : Int) = (L : Int) := by rw [IntKind.wrap_u64]; omega
  have hdef := Lib.hid (show rcount p L = if L < (rnum p).1 then (0, ⟨(rnum p).2.rest, true⟩) else rnum p from rfl)
  by_cases hgt : L < (rnum p).1
  · rw [if_pos hgt] at hdef
    rw [hdef.out]
    have hd : decide ((L : Int) < ((rnum p).1 : Int)) = true := decide_eq_true (by omega)
    clear h
    go_enter Try.func31, Try.ntmps31
    go_wp2_with (go_at_call 29; refine (number_c hH.out hg).mono ?_; rintro e w1 ⟨rfl, ⟨a1, c1, hR1⟩, hgr1⟩; have hf1 := hR1.blk.frozen 1; have hc1 := hR1.blk.cell 1; have hRH := Lib.hid hR1; have hgH := Lib.hid hgr1; clear hR1 hgr1)
    go_ret
    obtain ⟨h2, h3⟩ := hRH.out.setbad (w1 := W) hg
    exact ⟨rfl, ⟨_, _, h2⟩, grown_trans hgH.out h3⟩
  · rw [if_neg hgt] at hdef
    rw [hdef.out]
    have hd : decide ((L : Int) < ((rnum p).1 : Int)) = false := decide_eq_false (by omega)
    have hw2 : IntKind.i64.wrap ((rnum p).1 : Int) = ((rnum p).1 : Int) := by rw [IntKind.wrap_i64]; omega
    clear h
    go_enter Try.func31, Try.ntmps31
    go_wp2_with (go_at_call 29; refine (number_c hH.out hg).mono ?_; rintro e w1 ⟨rfl, ⟨a1, c1, hR1⟩, hgr1⟩; have hRH := Lib.hid hR1; have hgH := Lib.hid hgr1; clear hR1 hgr1)
    go_ret
    exact ⟨rfl, ⟨_, _, hRH.out⟩, hgH.out⟩
set_option maxRecDepth 20000 in
set_option maxHeartbeats 1000000 in
theorem byte_c {W : World} {g B0 c : Nat} {a : Addr} {p : Rd} (h : RdAt W g B0 a c p) (hg : B0 ≤ g) :
    Calls Try.prog 30 #[.pointer (some ⟨g, 0, none⟩)] W fun e w' => e = .returned (.int .u8 (rbyte p).1) ∧ (∃ a' c', RdAt w' g B0 a' c' (rbyte p).2) ∧ W.grownBy w' (some g) := by
  have hH := Lib.hid h
  have hroom := h.room
  have hc0 : W.cell? ⟨g, 0, none⟩ = some (.slice (some a) p.rest.length c) := h.blk.cell 0
  have hf0 := h.blk.frozen 0
  have hf1 := h.blk.frozen 1
  have hln := h.len
  cases hr : p.rest with
  | nil =>
    have hc1 := h.blk.cell 1
    have hdef := Lib.hid (show rbyte p = (0, ⟨[], true⟩) by unfold rbyte; rw [hr])
    rw [hdef.out]
    have hrH := Lib.hid hr
    rw [hr] at hc0 hroom
    simp only [List.length_nil] at hc0 hroom
    clear h hr hln
    go_enter Try.func30, Try.ntmps30
    go_wp2
    go_ret
    obtain ⟨h2, h3⟩ := hH.out.setbad (w1 := W) hg
    rw [hrH.out] at h2
    exact ⟨rfl, ⟨_, _, h2⟩, h3⟩
  | cons x r =>
    have hdef := Lib.hid (show rbyte p = (x, ⟨r, p.bad⟩) by unfold rbyte; rw [hr])
    rw [hdef.out]
    obtain ⟨ad, hae, hcx⟩ := Kd.at_int h.cells 0 (by omega) (by rw [hr]; simp)
    injection hae with hae
    subst hae
    have hcx2 : W.cell? a = some (.int .u8 x) := by rw [hr] at hcx; exact hcx
    have hrH := Lib.hid hr
    rw [hr] at hc0 hroom hln
    simp only [List.length_cons] at hc0 hroom hln
    have hne : (((r.length + 1 : Nat) : Int) == 0) = false := by simp; omega
    clear h hr hcx
    go_enter Try.func30, Try.ntmps30
    go_wp2
    go_ret
    have hgr : W.grownBy (W.setCell ⟨g, 0, none⟩ (.slice (some (a.add 1)) r.length (c - 1))) (some g) := grown_set (World.grownBy.refl W _) _ _
    refine ⟨rfl, ⟨_, _, hH.out.turn hg 1 (c - 1) ⟨r, p.bad⟩ (by rw [hrH.out]; simp) (by rw [hrH.out]; rfl) (by simp only; omega) (hH.out.blk.set_ 0 _) hgr⟩, hgr⟩
end Go.Proofs.Ytokdggmobhnnpaa
