/- classes.entry, classes.Run, homographref10.Run: walks. Own text. -/
import Derived.Test.YtbhdpamepmkaiaaRTab
import Derived.Lib.ConvBytes
namespace Go.Proofs.Ytbhdpamepmkaiaa
open Go.RowKit Go.Proofs.Ytbhdpamepmkaiaa.P Go.Proofs.Ytbhdpamepmkaiaa.Plain Go.Proofs.YtbhdpamepmkaiaaW.PrintWords Go.Proofs.YtbhdpamepmkaiaaW.PrintLast Go.Proofs.YtbhdpamepmkaiaaW.PrintMore
attribute [local go_sem] max2_int
set_option linter.unusedVariables false

/-- Where a table leads from a row by a byte. -/
def entryM (cl : List Int) (t : List (List Int)) (i : Int) (b : Nat) : Int :=
  if 0 ≤ i ∧ i < (t.length : Int) then
    if cl.getD b 0 < ((t.getD i.toNat []).length : Int) then (if (t.getD i.toNat []).getD (cl.getD b 0).toNat 0 < -1 then -1 else (t.getD i.toNat []).getD (cl.getD b 0).toNat 0) else -1
  else -1
theorem IsT.row {w : World} {A : Option Addr} {n c : Nat} {t : List (List Int)} (h : IsT w (.slice A n c) t) (i : Nat) (hi : i < t.length) :
    n = t.length ∧ ∃ ad A0 c0, A = some ad ∧ w.cell? (ad.add i) = some (.slice A0 (t.getD i []).length c0) ∧ (∀ k, k < (t.getD i []).length → ∃ ae, A0 = some ae ∧ w.cell? (ae.add k) = some (.int .i64 ((t.getD i []).getD k 0))) := by
  obtain ⟨A', c', he, hc, hC⟩ := h
  injection he with e1 e2 e3
  subst e1
  obtain ⟨ad, A0, c0, rfl, h1, h2, h3⟩ := at_L6 hC (i : Int) (by omega) (by omega)
  have e : rd_L6 t (i : Int) = t.getD i [] := by simp [rd_L6]
  rw [e] at h1 h2 h3
  simp only [Int.toNat_natCast] at h1
  refine ⟨e2, ad, A0, c0, rfl, h1, fun k hk => ?_⟩
  obtain ⟨ae, rfl, hq⟩ := Kd.at_int h3 (k : Int) (by omega) (by omega)
  simp only [Int.toNat_natCast] at hq
  exact ⟨ae, rfl, by simpa [rd] using hq⟩

set_option maxRecDepth 20000 in
set_option maxHeartbeats 1000000 in
theorem entry_c {w : World} {v : Value} {t : List (List Int)} (h : IsT w v t) (cl : List Int) (hl : cl.length = 256) (hr : ∀ x ∈ cl, 0 ≤ x ∧ x ≤ 255) (i : Int) (b : Nat) (hb : b < 256) :
    Calls Try.prog 28 #[.agg (arI .u8 cl), v, .int .i64 i, .int .u8 (b : Int)] w fun e w' => e = .returned (.int .i64 (entryM cl t i b)) ∧ Below w.heap.size w w' := by
  have hcell : (w.alloc (.cells (arI .u8 cl) 24)).cell? ⟨w.heap.size, b, none⟩ = some (.int .u8 (cl.getD b 0)) := (Blk.new w 24 (arI .u8 cl)).cellI b (by omega)
  have hx : 0 ≤ cl.getD b 0 ∧ cl.getD b 0 ≤ 255 := hr _ (by rw [List.getD_eq_getElem?_getD, List.getElem?_eq_getElem (by omega)]; exact List.getElem_mem _)
  have hbel := Lib.hid (below_alloc (Below.refl w.heap.size w) (.cells (arI .u8 cl) 24))
  have hT := Lib.hid (h.below hbel.out)
  obtain ⟨A, c, rfl, hc, hC⟩ := h
  have hfin := Lib.hid (rfl : entryM cl t i b = _)
  have hlm : t.length ≤ 9223372036854775807 := hC.2.1
  clear hl hr hC hc
  generalize hA : arI .u8 cl = C at *
  clear hA
  unfold entryM at *
  generalize hxx : cl.getD b 0 = x at *
  obtain ⟨n, rfl⟩ := Int.eq_ofNat_of_zero_le hx.1
  simp only [Int.toNat_natCast] at *
  clear hxx
  by_cases h0 : i < 0
  · have hd : decide (i < 0) = true := decide_eq_true h0
    rw [if_neg (by omega)]
    clear hfin
    go_enter Try.func28, Try.ntmps28
    go_wp2
    go_ret
    exact ⟨rfl, hbel.out⟩
  · have hd : decide (i < 0) = false := decide_eq_false h0
    obtain ⟨k, rfl⟩ := Int.eq_ofNat_of_zero_le (by omega : 0 ≤ i)
    by_cases h1 : k < t.length
    · have hd1 : decide ((k : Int) < (t.length : Int)) = true := decide_eq_true (by omega)
      have hd2 : decide ((t.length : Int) ≤ (k : Int)) = false := decide_eq_false (by omega)
      rw [if_pos (by omega)]
      simp only [Int.toNat_natCast] at *
      obtain ⟨_, ad, A0, c0, rfl, hrow, hels⟩ := hT.out.row k h1
      generalize t.getD k [] = row at *
      by_cases h2 : n < row.length
      · obtain ⟨ae, rfl, hel⟩ := hels n h2
        rw [if_pos (by omega)]
        clear hels hfin
        have hd3 : decide ((n : Int) < (row.length : Int)) = true := decide_eq_true (by omega)
        generalize row.getD n 0 = y at *
        by_cases h3 : y < -1
        all_goals
          go_enter Try.func28, Try.ntmps28
          go_wp2
          go_ret
        · exact ⟨rfl, hbel.out⟩
        · exact ⟨rfl, hbel.out⟩
      · rw [if_neg (by omega)]
        clear hels hfin
        have hd3 : decide ((n : Int) < (row.length : Int)) = false := decide_eq_false (by omega)
        go_enter Try.func28, Try.ntmps28
        go_wp2
        go_ret
        exact ⟨rfl, hbel.out⟩
    · have hd2 : decide ((t.length : Int) ≤ (k : Int)) = true := decide_eq_true (by omega)
      rw [if_neg (by omega)]
      clear hfin
      go_enter Try.func28, Try.ntmps28
      go_wp2
      go_ret
      exact ⟨rfl, hbel.out⟩

/-- Where a table is behind bytes, from a row on. -/
def runE (cl : List Int) (t : List (List Int)) (at_ : Int) (bs : List UInt8) : Int := bs.foldl (fun a c => entryM cl t a c.toNat) at_
def runT (cl : List Int) (t : List (List Int)) (s : ByteArray) : Int := if t.length = 0 then -1 else runE cl t 0 s.data.toList
theorem runE_take (cl : List Int) (t : List (List Int)) (at_ : Int) (bs : List UInt8) (k : Nat) (hk : k < bs.length) : runE cl t at_ (bs.take (k + 1)) = entryM cl t (runE cl t at_ (bs.take k)) (bs.getD k 0).toNat := by
  unfold runE
  rw [List.take_succ_eq_append_getElem hk, List.foldl_append]
  simp [List.getD_eq_getElem?_getD, hk]
theorem below_bytes {B : Nat} {w0 w : World} (h : Below B w0 w) (hB : B ≤ w.heap.size) (e : TypeId) (s : ByteArray) : Below B w0 (Lib.bytesWorld w e s) :=
  h.trans ⟨rfl, rfl, rfl, by rw [Lib.bytesWorld_size]; omega, fun i hi => Lib.bytesWorld_at_old w e s i (by omega)⟩

structure RunAt (w wr : World) (C : Array Value) (s : ByteArray) : Prop where
  c : Blk wr w.heap.size 24 C
  b : Below w.heap.size w wr
  s : ∀ j, j < s.size → wr.cell? ⟨w.heap.size + 1, j, none⟩ = some (.int .u8 (s.data.toList.getD j 0).toNat)
  z : w.heap.size + 1 < wr.heap.size
theorem RunAt.below {w wr w1 : World} {C : Array Value} {s : ByteArray} (h : RunAt w wr C s) (hb : Below wr.heap.size wr w1) : RunAt w w1 C s :=
  ⟨h.c.below hb h.c.lt, below_then h.b h.b.size hb, fun j hj => pw_cell_below hb (h.s j hj), Nat.lt_of_lt_of_le h.z hb.size⟩

set_option maxRecDepth 20000 in
set_option maxHeartbeats 1000000 in
theorem trun_c {w : World} {v : Value} {t : List (List Int)} (h : IsT w v t) (cl : List Int) (hl : cl.length = 256) (hr : ∀ x ∈ cl, 0 ≤ x ∧ x ≤ 255) (s : ByteArray) (hs : s.size ≤ 4096) :
    Calls Try.prog 18 #[.agg (arI .u8 cl), v, .string s] w fun e w' => e = .returned (.int .i64 (runT cl t s)) ∧ Below w.heap.size w w' := by
  have hH := Lib.hid h
  have hE := Lib.hid (fun (W : World) (v : Value) (hW : IsT W v t) (i : Int) (b : Nat) (hb : b < 256) => entry_c hW cl hl hr i b hb)
  have hsz : Hid ((Try.prog.info? 24).map (·.size) = some (arI .u8 cl).size) := Lib.hid (by rw [arI_size, hl]; exact size24)
  obtain ⟨A, c, rfl, hc, hC⟩ := h
  have hlm : t.length ≤ 9223372036854775807 := hC.2.1
  clear hl hr hC hc
  generalize hA : arI .u8 cl = C at *
  clear hA
  have hcv := Lib.run_convert_string_bytes (P := Try.prog) (w.alloc (.cells C 24)) 9 28 5 s Try.underlying9 Try.underlying28 Try.underlying5
  by_cases h0 : t.length = 0
  · have hd : ((t.length : Int) == 0) = true := by simp [h0]
    have h0H := Lib.hid h0
    clear h0
    go_enter Try.func18, Try.ntmps18
    go_wp2
    go_ret
    exact ⟨by rw [runT, if_pos h0H.out]; rfl, below_alloc (Below.refl _ _) _⟩
  · have hd : ((t.length : Int) == 0) = false := by simp [h0]
    have h0H := Lib.hid h0
    clear h0
    have hR0 : RunAt w (Lib.bytesWorld (w.alloc (.cells C 24)) 5 s) C s := by
      refine ⟨?_, below_bytes (below_alloc (Below.refl _ _) _) (by simp) _ _, fun j hj => ?_, ?_⟩
      · exact (Lib.bytesWorld_at_old _ 5 s _ (by simp)).trans (Blk.new w 24 C)
      · have h := Lib.bytesWorld_cell (w.alloc (.cells C 24)) 5 s j hj
        rw [World.size_alloc] at h; exact h
      · rw [Lib.bytesWorld_size, World.size_alloc]; omega
    go_enter Try.func18, Try.ntmps18
    go_wp2_with fail
    generalize grownCap (w.alloc (.cells C 24)) s.size 0 5 = cap at *
    generalize Lib.bytesWorld (w.alloc (.cells C 24)) 5 s = W0 at *
    clear hcv
    go_loopw [7, 16] (fun at_ ii wr => ∃ k : Nat, k ≤ s.size ∧ ii = .int .i64 k ∧ at_ = .int .i64 (runE cl t 0 (s.data.toList.take k)) ∧ RunAt w wr C s) (fun _ i _ => s.size - (intOf i).toNat)
    case atStart => exact ⟨0, by omega, rfl, rfl, hR0⟩
    case round =>
      clear hR0
      obtain ⟨k, hk, rfl, rfl, hR⟩ := hrel
      by_cases hlt : k < s.size
      · have hcell := hR.s k hlt
        have hbb : (s.data.toList.getD k 0).toNat < 256 := UInt8.toNat_lt _
        have hst := Lib.hid (runE_take cl t 0 s.data.toList k (by simpa using hlt))
        generalize (s.data.toList.getD k 0).toNat = b at hcell hbb hst
        generalize runE cl t 0 (s.data.toList.take k) = x at *
        go_wp2_with (first
          | (refine wpList_load_row rfl 24 (.tmp 3) rfl w.heap.size rfl 24 _ (0, 0) _ hR.c Try.underlying24 rfl hsz.out ?_)
          | (go_at_call 28; refine (hE.out _ _ (hH.out.below hR.b) _ _ hbb).mono ?_; rintro e w1 ⟨rfl, hb1⟩))
        go_roundw
        case rel => exact ⟨k + 1, by omega, by go_num, by rw [hst.out], hR.below hb1⟩
        case measure => simp [intOf]; omega
      · obtain rfl : k = s.size := by omega
        go_wp2
        go_ret
        refine ⟨?_, hR.b⟩
        rw [runT, if_neg h0H.out, List.take_of_length_le (by simp)]; rfl
end Go.Proofs.Ytbhdpamepmkaiaa
