/- classes.Of: what it comes to, and its walk. Own text. -/
import Derived.Test.YtbhdpamepmkaiaaRef
namespace Go.Proofs.Ytbhdpamepmkaiaa
open Go.RowKit Go.Proofs.Ytbhdpamepmkaiaa.P Go.Proofs.Ytbhdpamepmkaiaa.Plain Go.Proofs.YtbhdpamepmkaiaaW.PrintWords Go.Proofs.YtbhdpamepmkaiaaW.PrintLast Go.Proofs.YtbhdpamepmkaiaaW.PrintMore
set_option linter.unusedVariables false

theorem size24' : (Try.prog.info? 24).map (·.size) = some 256 := by kernel_rfl
theorem aggI : ∀ w : World, (isAgg 3).run Try.prog w = .ok false w := fun _ => by kernel_rfl
theorem size3 : (Try.prog.info? 3).map (·.size) = some 1 := by kernel_rfl
def zerosB : Array Value := arI .u8 (List.replicate 256 0)
theorem zero24 : ∀ w : World, (zeroValue 24).run Try.prog w = .ok (.agg zerosB) w := fun _ => by kernel_rfl

/-- The parts after so many states; how many there are. -/
def partL (m : List S48) : Nat → List Int
  | 0 => List.replicate 256 0
  | k + 1 => refP (partL m k) (nextM m k) 256
def manyL (m : List S48) : Nat → Nat
  | 0 => 1
  | k + 1 => (seenL (partL m k) (nextM m k) 256).length
theorem partL_len (m : List S48) (k : Nat) : (partL m k).length = 256 := by
  induction k with
  | zero => rw [partL, List.length_replicate]
  | succ k ih => rw [partL, refP_len, ih]
theorem look_lt (v : Int × Int) : ∀ (S : List (Int × Int)) (i n : Nat), look v S i = some n → i ≤ n ∧ n < i + S.length := by
  intro S
  induction S with
  | nil => intro i n h; simp [look] at h
  | cons p S ih =>
    intro i n h
    simp only [look] at h
    split at h
    · injection h with h; simp; omega
    · have := ih _ _ h; simp; omega
theorem seenL_len (pl : List Int) (g : Int → Int) (b : Nat) : (seenL pl g b).length ≤ b := by
  induction b with
  | zero => simp [seenL]
  | succ b ih =>
    rw [seenL]
    split
    · rw [List.length_append, List.length_singleton]; omega
    · omega
theorem seenL_pos (pl : List Int) (g : Int → Int) (b : Nat) : 1 ≤ (seenL pl g (b + 1)).length := by
  induction b with
  | zero => simp [seenL, look]
  | succ b ih =>
    rw [seenL]
    split
    · rw [List.length_append, List.length_singleton]; omega
    · omega
theorem refP_bd (pl : List Int) (g : Int → Int) (b : Nat) (hb : b ≤ 256) : ∀ x, x < b → b ≤ pl.length → 0 ≤ (refP pl g b).getD x 0 ∧ (refP pl g b).getD x 0 ≤ 255 := by
  induction b with
  | zero => intro x h; omega
  | succ b ih =>
    intro x hx hl
    have hlen := refP_len pl g b
    simp only [refP]
    rcases Nat.lt_or_ge x b with h | h
    · have := ih (by omega) x h (by omega)
      simp only [List.getD_eq_getElem?_getD] at this ⊢
      rw [List.getElem?_set_ne (by omega)]; exact this
    · obtain rfl : x = b := by omega
      simp only [List.getD_eq_getElem?_getD, List.getElem?_set_self (by omega : x < (refP pl g x).length), Option.getD_some]
      have h2 := seenL_len pl g (x + 1)
      have h3 := seenL_pos pl g x
      cases hq : look (pl[x]?.getD 0, g x) (seenL pl g (x + 1)) 0 with
      | none => simp
      | some n => have := look_lt _ _ _ _ hq; simp; omega
theorem partL_bd (m : List S48) (k : Nat) : ∀ x, x < 256 → 0 ≤ (partL m k).getD x 0 ∧ (partL m k).getD x 0 ≤ 255 := by
  intro x hx
  cases k with
  | zero => rw [partL, List.getD_eq_getElem?_getD, List.getElem?_replicate, if_pos hx]; simp
  | succ k => exact refP_bd _ _ 256 (by omega) x hx (by rw [partL_len]; omega)
/-- The classes, the first b bytes having been told. -/
def outL (P : List Int) (b : Nat) : List Int := P.take b ++ List.replicate (256 - b) 0
theorem outL_step (P : List Int) (hP : P.length = 256) (b : Nat) (hb : b < 256) : (outL P b).set b (P.getD b 0) = outL P (b + 1) := by
  apply List.ext_getElem?
  intro i
  simp only [outL]
  rw [List.getElem?_set]
  have e1 : min b 256 = b := by omega
  have e2 : min (b + 1) 256 = b + 1 := by omega
  simp only [List.getElem?_append, List.length_take, hP, List.length_append, List.length_replicate, List.getElem?_take, List.getElem?_replicate, List.getD_eq_getElem?_getD, e1, e2]
  by_cases h1 : b = i
  · subst h1
    rw [if_pos rfl, if_pos (by omega), if_pos (by omega), if_pos (by omega), List.getElem?_eq_getElem (by omega)]; simp
  · rw [if_neg h1]
    by_cases h2 : i < b
    · rw [if_pos (by omega), if_pos (by omega), if_pos (by omega), if_pos (by omega)]
    · by_cases h3 : i < 256
      · rw [if_neg (by omega), if_pos (by omega), if_neg (by omega), if_pos (by omega)]
      · rw [if_neg (by omega), if_neg (by omega), if_neg (by omega), if_neg (by omega)]

structure OfAt (w wr : World) (v : Value) (Z : Array Value) (P : List Int) : Prop where
  v : Blk wr w.heap.size 23 #[v]
  r : Blk wr (w.heap.size + 1) 24 Z
  p : Blk wr (w.heap.size + 2) 51 (arI .i64 P)
  b : Below w.heap.size w wr
theorem OfAt.step {w wr w1 : World} {v : Value} {Z : Array Value} {P : List Int} (h : OfAt w wr v Z P) (o : Obj) (hb : Below (wr.alloc o).heap.size (wr.alloc o) w1) : OfAt w w1 v Z P :=
  ⟨(h.v.alloc o).below hb (h.v.alloc o).lt, (h.r.alloc o).below hb (h.r.alloc o).lt, (h.p.alloc o).below hb (h.p.alloc o).lt, below_then (below_alloc h.b o) (below_alloc h.b o).size hb⟩
theorem OfAt.put {w wr : World} {v : Value} {Z : Array Value} {P : List Int} (h : OfAt w wr v Z P) (P' : List Int) : OfAt w (wr.setRow (w.heap.size + 2) (arI .i64 P')) v Z P' :=
  ⟨h.v.setRow_far _ (by omega), h.r.setRow_far _ (by omega), h.p.setRow_ _, below_setRow_ h.b (by omega) _⟩

set_option maxRecDepth 20000 in
set_option maxHeartbeats 1000000 in
theorem of_c {w : World} {v : Value} {m : List S48} (h : IsM w v m) (hm : m.length ≤ 4096) :
    Calls Try.prog 8 #[v] w fun e w' => e = .returned (.tuple #[.agg (arI .u8 (partL m m.length)), .int .i64 ((manyL m m.length : Nat) : Int)]) ∧ Below w.heap.size w w' := by
  have hH := Lib.hid h
  obtain ⟨A, c, rfl, h2, h3⟩ := h
  clear h2 h3
  go_enter Try.func8, Try.ntmps8
  go_wp2_with (first
    | (refine wpList_alloc_arr rfl 24 rfl zerosB zero24 ?_)
    | (refine wpList_alloc_arr rfl 51 rfl zerosI zero51 ?_))
  go_loopw [5, 12] (fun mm ii wr => ∃ k : Nat, k ≤ m.length ∧ ii = .int .i64 k ∧ mm = .int .i64 ((manyL m k : Nat) : Int) ∧ OfAt w wr (.slice A m.length c) zerosB (partL m k)) (fun _ i _ => m.length - (intOf i).toNat)
  case atStart =>
    refine ⟨0, by omega, rfl, by rw [manyL]; rfl, ?_, ?_, ?_, ?_⟩
    · exact ((Blk.new w 23 _).alloc (.cells zerosB 24)).alloc (.cells zerosI 51)
    · have h := (Blk.new (w.alloc (.cells #[.slice A m.length c] 23)) 24 zerosB).alloc (.cells zerosI 51)
      rw [World.size_alloc] at h; exact h
    · have h := Blk.new ((w.alloc (.cells #[.slice A m.length c] 23)).alloc (.cells zerosB 24)) 51 zerosI
      rw [World.size_alloc, World.size_alloc] at h
      show Blk _ _ _ (arI .i64 (List.replicate 256 0))
      exact h
    · exact below_alloc (below_alloc (below_alloc (Below.refl _ _) _) _) _
  case round =>
    obtain ⟨k, hk, rfl, rfl, hR⟩ := hrel
    by_cases hlt : k < m.length
    · have hlp := Lib.hid (partL_len m k)
      go_wp2_with (first
        | (refine wpList_load_row rfl 51 (.tmp 4) rfl (w.heap.size + 2) rfl 51 _ (0, 0) _ (hR.p.alloc _) Try.underlying51 rfl ?_ ?_; (rw [arI_size, hlp.out]; exact size51))
        | (go_at_call 23
           refine (refined_c (partL m k) hlp.out (k : Int) w.heap.size wr.heap.size _ (hH.out.below (below_alloc hR.b _)) ((hR.v.alloc _).cell 0) ((Blk.new wr 3 #[.int .i64 k]).cell 0)).mono ?_
           rintro e w1 ⟨rfl, hb1⟩
           have hR1 := OfAt.step hR _ hb1)
        | (refine wpList_store_row rfl 51 (.tmp 4) (.tmp 19) rfl (w.heap.size + 2) _ rfl rfl 51 _ hR1.p ?_ ?_ (arI_one _ _) ?_; (rw [arI_size, refP_len, hlp.out]; exact size51); (rw [arI_size, arI_size, refP_len])))
      go_roundw
      case rel =>
        exact ⟨k + 1, by omega, by go_num, by rw [manyL], by rw [partL]; exact hR1.put _⟩
      case measure => simp [intOf]; omega
    · obtain rfl : k = m.length := by omega
      have hlp := Lib.hid (partL_len m m.length)
      have hbd := Lib.hid (partL_bd m m.length)
      have hixH := Lib.hid (fun (i : Nat) (hi : i < 256) => run_index_arr (P := Try.prog) 51 3 256 i (arI .i64 (partL m m.length)) _ Try.underlying51 size3 aggI (by rw [arI_size]; exact hlp.out) hi (arI_get .i64 (partL m m.length) i (by have := hlp.out; omega)))
      go_wp2_with (first
        | (refine wpList_alloc_arr rfl 24 rfl zerosB zero24 ?_)
        | (refine wpList_load_row rfl 51 (.tmp 4) rfl (w.heap.size + 2) rfl 51 _ (0, 0) _ (hR.p.alloc _) Try.underlying51 rfl ?_ ?_; (rw [arI_size, hlp.out]; exact size51)))
      obtain ⟨wo, rfl⟩ : ∃ wo : World, wo = wr := ⟨_, rfl⟩
      have hge := hR.b.size
      have hltv := hR.p.lt
      have hrr := Lib.hid hR
      clear hR
      generalize hPP : partL m m.length = PP at *
      have hPH := Lib.hid hPP
      clear hPP
      go_loopw [23] (fun ii wr => ∃ b : Nat, b ≤ 256 ∧ ii = .int .i64 b ∧ Hid (Blk wr wo.heap.size 24 (arI .u8 (outL PP b))) ∧ Hid (Blk wr (w.heap.size + 1) 24 zerosB) ∧ Hid (Below w.heap.size w wr)) (fun i _ => 256 - (intOf i).toNat)
      case atStart =>
        exact ⟨0, by omega, rfl, Lib.hid (Blk.new wo 24 zerosB), Lib.hid (hrr.out.r.alloc _), Lib.hid (below_alloc hrr.out.b _)⟩
      case round =>
        obtain ⟨b, hb, rfl, hO, hZ, hbel⟩ := hrel
        by_cases hlt : b < 256
        · have hrun := hixH.out b hlt
          have hx := hbd.out b hlt
          have hst := Lib.hid (outL_step PP hlp.out b hlt)
          have hlO : (outL PP b).length = 256 := by simp only [outL, List.length_append, List.length_take, List.length_replicate, hlp.out]; omega
          have hc := hO.out.cellI b (by rw [hlO]; exact hlt)
          have hf := hO.out.frozen b
          clear hlO
          generalize (outL PP b).getD b 0 = old at hc
          generalize PP.getD b 0 = x at *
          go_wp2
          go_roundw
          case rel =>
            refine ⟨b + 1, by omega, by go_num, ?_, ?_, ?_⟩
            · have h := hO.out.setI b x
              rw [hst.out] at h; exact h
            · exact hZ.out.far (by simp; omega) _
            · exact hbel.out.setCell (by simp; omega) _
          case measure => simp [intOf]; omega
        · obtain rfl : b = 256 := by omega
          have e : Hid (outL PP 256 = PP) := by unfold Hid outL; rw [List.take_of_length_le (by have := hlp.out; omega)]; simp
          have hO2 := hO.out
          rw [e.out] at hO2
          have hO3 := Lib.hid hO2
          clear hO2
          go_wp2_with (first
            | (refine wpList_load_row rfl 24 (.tmp 7) rfl wo.heap.size rfl 24 _ (0, 0) _ hO3.out Try.underlying24 rfl ?_ ?_; (rw [arI_size, hlp.out]; exact size24'))
            | (refine wpList_store_row rfl 24 (.tmp 2) (.tmp 32) rfl (w.heap.size + 1) _ rfl rfl 24 zerosB hZ.out ?_ ?_ (arI_one _ _) ?_; (rw [arI_size, hlp.out]; exact size24'); (rw [arI_size, hlp.out]; rfl)))
          have hsz2 : (Try.prog.info? 24).map (·.size) = some (arI .u8 PP).size := by rw [arI_size, hlp.out]; exact size24'
          refine bodyPost_ret (results_row2 rfl _ _ (w.heap.size + 1) 24 (arI .u8 PP) _ rfl (hZ.out.setRow_ _) Try.underlying24 rfl hsz2) rfl ⟨by rw [hPH.out]; rfl, ?_⟩
          exact below_setRow_ hbel.out (by omega) _
end Go.Proofs.Ytbhdpamepmkaiaa
