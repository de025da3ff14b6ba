/- dfacode.Put: its walk. Own text. -/
import Derived.Test.YtokdggmobhnnpaaHNum
import Derived.Lib.SlBytesConst
namespace Go.Proofs.Ytokdggmobhnnpaa
open Go.RowKit Go.Proofs.Ytokdggmobhnnpaa.P Go.Proofs.Ytokdggmobhnnpaa.Enc Go.Proofs.YtokdggmobhnnpaaW.PrintWords Go.Proofs.YtokdggmobhnnpaaW.PrintLast Go.Proofs.YtokdggmobhnnpaaW.PrintMore
set_option linter.unusedVariables false
set_option linter.unusedSimpArgs false

/-! Bytes put so far. -/
def hd (m : List S57) (i : Nat) : List Int := 68 :: 70 :: 65 :: 49 :: (num m.length ++ (m.take i).flatMap encS)
def st (s : S57) (j : Nat) : List Int := num s.f0.toNat ++ (num s.f1.length ++ (s.f1.take j).flatMap encA)
theorem hd_zero (m : List S57) : hd m 0 = [68, 70, 65, 49] ++ num m.length := by simp [hd]
theorem hd_full (m : List S57) : hd m m.length = body m := by simp [hd, body]
theorem hd_succ (m : List S57) (i : Nat) (h : i < m.length) : hd m (i + 1) = hd m i ++ encS m[i] := by
  unfold hd; rw [List.take_succ_eq_append_getElem h, List.flatMap_append]; simp
theorem hd_le (m : List S57) (i : Nat) : (hd m i).length ≤ (body m).length := by
  unfold hd body
  simp only [List.length_cons, List.length_append]
  have : ((m.take i).flatMap encS).length ≤ (m.flatMap encS).length := by
    conv => rhs; rw [← List.take_append_drop i m, List.flatMap_append, List.length_append]
    omega
  omega
theorem st_zero (s : S57) : st s 0 = num s.f0.toNat ++ num s.f1.length := by simp [st]
theorem st_full (s : S57) : st s s.f1.length = encS s := by simp [st, encS]
theorem st_succ (s : S57) (j : Nat) (h : j < s.f1.length) : st s (j + 1) = st s j ++ (s.f1[j].f0 :: s.f1[j].f1 :: num s.f1[j].f2.toNat) := by
  unfold st; rw [List.take_succ_eq_append_getElem h, List.flatMap_append]; simp [encA]
theorem st_le (s : S57) (j : Nat) : (st s j).length ≤ (encS s).length := by
  unfold st encS
  simp only [List.length_append]
  have : ((s.f1.take j).flatMap encA).length ≤ (s.f1.flatMap encA).length := by
    conv => rhs; rw [← List.take_append_drop j s.f1, List.flatMap_append, List.length_append]
    omega
  omega
theorem flat_le {α : Type} (f : α → List Int) (N : Nat) : ∀ l : List α, (∀ x ∈ l, (f x).length ≤ N) → (l.flatMap f).length ≤ N * l.length := by
  intro l
  induction l with
  | nil => intro _; simp
  | cons a l ih =>
    intro h
    have h1 := h a (by simp)
    have h2 := ih (fun x hx => h x (by simp [hx]))
    rw [List.flatMap_cons, List.length_append, List.length_cons, Nat.mul_add]
    omega
theorem body_len (m : List S57) (hg : goodB m = true) (ho : OkM m) : (body m).length ≤ 20000000 := by
  have h4 := good_len m hg
  have hS : ∀ s ∈ m, (encS s).length ≤ 3100 := fun s hs => by
    have h1 := (good_arcs m hg ho s hs).1
    have hA : ∀ a ∈ s.f1, (encA a).length ≤ 12 := fun a ha => by
      have := num_len10 a.f2.toNat (by have := ((ho.2 s hs).2.2 a ha).2.2; omega)
      simp only [encA, List.length_cons]; omega
    have h2 := flat_le encA 12 s.f1 hA
    have h3 := num_len10 s.f0.toNat (by have := (ho.2 s hs).1; omega)
    have h5 := num_len10 s.f1.length (ho.2 s hs).2.1
    unfold encS
    simp only [List.length_append]
    omega
  have h6 := flat_le encS 3100 m hS
  have h7 := num_len10 m.length ho.1
  unfold body
  simp only [List.length_cons, List.length_append]
  omega

/-! What Put comes to. -/
def PreP (m : List S57) : Prop := ByM m ∧ (goodB m = true → OkM m)
instance (m : List S57) : Decidable (PreP m) := by unfold PreP ByM OkM OkS OkA; infer_instance
def P.dfacode_Put.f (m : List S57) : Option (List Int × Int) := if PreP m then some (if goodB m = true then (putL m, 0) else ([], 110)) else none

theorem WrAt.here {W w0 wr : World} {B0 g : Nat} {row : Option Nat} {v : Value} {xs : List Int} (h : WrAt W w0 wr B0 g row v xs) : WrAt wr w0 wr B0 g v.ownBlock v xs :=
  ⟨h.blk, h.r, h.b, KeepBut.refl _ _ _, .inl rfl⟩
theorem isU_new (w : World) (e : TypeId) (k : IntKind) (xs : List Int) (hm : xs.length ≤ 9223372036854775807) : (Kd.int k).C (w.alloc (.cells (arI k xs) e)) (some ⟨w.heap.size, 0, none⟩) xs.length xs := by
  obtain ⟨A, c, e1, _, h⟩ := Kd.R_reads ((Blk.new w e (arI k xs)).to_R (base := 0) (ok := fun _ => True) (by omega) (by simpa [maxLen] using hm) trivial)
  injection e1 with e1 _ _
  subst e1
  exact h
/-- The mark's bytes, as the conversion of a constant leaves them. -/
abbrev markObj : Obj := .cells #[.int .u8 68, .int .u8 70, .int .u8 65, .int .u8 49] 5 (4, 5)
theorem mark_C (w : World) : (Kd.int .u8).C (w.alloc markObj) (some ⟨w.heap.size, 0, none⟩) 4 [68, 70, 65, 49] := by
  refine Kd.C_of_reads (d := (0 : Int)) ⟨rfl, by decide, fun _ => ⟨_, rfl, fun j hj => ?_⟩⟩
  have hb : (w.alloc markObj).heap[w.heap.size]? = some markObj := heap_alloc_new w _
  rw [add_plain, cell_of_row _ w.heap.size j _ 5 (4, 5) hb]
  match j, hj with
  | 0, _ => rfl
  | 1, _ => rfl
  | 2, _ => rfl
  | 3, _ => rfl
/-- A writer that has just been made. -/
theorem WrAt.new (w : World) : WrAt ((w.alloc markObj).alloc (.cells #[.slice (some ⟨w.heap.size, 0, none⟩) 4 4] 53)) w ((w.alloc markObj).alloc (.cells #[.slice (some ⟨w.heap.size, 0, none⟩) 4 4] 53)) w.heap.size (w.heap.size + 1) (Value.slice (some ⟨w.heap.size, 0, none⟩) 4 4).ownBlock (.slice (some ⟨w.heap.size, 0, none⟩) 4 4) [68, 70, 65, 49] := by
  refine ⟨?_, .inr ⟨⟨w.heap.size, 0, none⟩, rfl, ?_, Nat.le_refl _, #[.int .u8 68, .int .u8 70, .int .u8 65, .int .u8 49], (4, 5), ?_⟩, below_alloc (below_alloc (Below.refl _ _) _) _, KeepBut.refl _ _ _, .inl rfl⟩
  · have h := Blk.new (w.alloc markObj) 53 #[.slice (some ⟨w.heap.size, 0, none⟩) 4 4]
    rw [World.size_alloc] at h; exact h
  · exact Kd.C_below (mark_C w) (below_alloc (Below.refl _ _) _)
  · exact (Below.heap_alloc _ _ w.heap.size (by simp)).trans (heap_alloc_new w _)
theorem blk_ne {w : World} {a b : Nat} {t t' : TypeId} {cs cs' : Array Value} (h : Blk w a t cs) (h' : Blk w b t' cs') (ht : t ≠ t') : a ≠ b := by
  rintro rfl
  unfold Blk at h h'
  rw [h] at h'
  injection h' with h'
  injection h' with _ h' _
  exact ht h'
/-- A block of another type is kept while the writer writes. -/
theorem WrAt.keep {W w0 wr : World} {B0 g h t : Nat} {v v1 : Value} {xs xs1 : List Int} {cs : Array Value} (ha : WrAt W w0 W B0 g v.ownBlock v xs) (hb : Blk W h t cs) (h5 : t ≠ 5) (h53 : t ≠ 53) (hk : WrAt W w0 wr B0 g v.ownBlock v1 xs1) : Blk wr h t cs :=
  (hk.k.2 h hb.lt (blk_ne hb ha.blk h53) (fun e => own_ne h5 ha.r hb h e.symm rfl)).trans hb
/-- A slice of numbers just built, handed to the writer. -/
theorem put_nums {w0 W : World} {B0 g : Nat} {v : Value} {xs : List Int} (hA : WrAt W w0 W B0 g v.ownBlock v xs) (hg : B0 ≤ g) (ns : List Int) (hns : ∀ n ∈ ns, 0 ≤ n ∧ n < 18446744073709551616) (hk : ns.length ≤ 100) (ys : List Int)
    (hl : xs.length + ys.length ≤ 1000000000) (e : (ns.flatMap fun n => num n.toNat) = ys) :
    Calls Try.prog 23 #[.pointer (some ⟨g, 0, none⟩), .slice (some ⟨W.heap.size, 0, none⟩) ns.length ns.length] (W.alloc (.cells (arI .u64 ns) 24)) fun e w' => ∃ v1, e = .returned (.tuple #[]) ∧ WrAt W w0 w' B0 g v.ownBlock v1 (xs ++ ys) := by
  have hb := below_alloc (Below.refl W.heap.size W) (.cells (arI .u64 ns) 24)
  have hBW : B0 ≤ W.heap.size := Nat.le_trans hg (Nat.le_of_lt hA.blk.lt)
  have h1 := (hA.below hBW hb)
  have hsz : (W.alloc (.cells (arI .u64 ns) 24)).heap.size = W.heap.size + 1 := by simp
  have hown := hA.r.lt
  refine (numbers_c h1.here hg (some ⟨W.heap.size, 0, none⟩) ns.length ns (isU_new W 24 .u64 ns (by omega)) hns (fun ad h => ?_) (by rw [e]; exact hl)).mono ?_
  · injection h with h
    subst h
    refine ⟨fun h => ?_, fun h => ?_⟩
    · have := hA.blk.lt; simp only at h; omega
    · have := hown _ h.symm; simp only at this; omega
  · rintro e' w' ⟨v1, rfl, h2⟩
    rw [e] at h2
    exact ⟨v1, rfl, h2.blk, h2.r, h2.b, ⟨by have := h2.k.1; omega, fun i hi h3 h4 => (h2.k.2 i (by omega) h3 h4).trans (h1.k.2 i hi h3 h4)⟩, by
      rcases h2.o with h | ⟨b, h, h5⟩
      · exact .inl h
      · exact .inr ⟨b, h, by omega⟩⟩
set_option maxRecDepth 20000 in
set_option maxHeartbeats 2000000 in
theorem put_c (A : Option Addr) (c : Nat) (m : List S57) (w : World) (hR : Kd.C k57 w A m.length m) (hc : m.length ≤ c) (hp : PreP m) :
    Calls Try.prog 9 #[.slice A m.length c] w fun e w' => ∃ v0 : Value, e = .returned (.tuple #[v0, .int .i64 (if goodB m = true then 0 else 110)]) ∧
      (Kd.int .u8).R 5 w' w.heap.size (fun _ => True) v0 (if goodB m = true then putL m else []) ∧ Below w.heap.size w w' := by
  obtain ⟨K, hK⟩ := check_f m hp.1
  have hck := Lib.hid (fun W hW => dfa_Check.calls K A c m _ W hW hc (hK K (Nat.le_refl _)))
  have hRH := Lib.hid hR
  have hlen : m.length ≤ 9223372036854775807 := hR.2.1
  by_cases hg : goodB m = true
  · have ho := hp.2 hg
    have hbl := Lib.hid (body_len m hg ho)
    have hm4 := good_len m hg
    have hga := Lib.hid (good_arcs m hg ho)
    have hoH := Lib.hid ho
    rw [if_pos hg] at hck
    rw [if_pos hg, if_pos hg]
    have hcv := fun (w : World) (C : Array Value) (n c : Nat) => Lib.run_convert_bytes_const (P := Try.prog) w 25 5 C n c Try.underlying25 Try.underlying5
    have hwm : IntKind.u64.wrap (m.length : Int) = (m.length : Int) := by rw [IntKind.wrap_u64]; omega
    clear hR hp hK ho
    go_enter Try.func9, Try.ntmps9
    go_upto_region 4 with (go_at_call 22; refine (hck.out _ hRH.out).mono ?_; rintro e w1 ⟨rfl, hb1⟩)
    have hA1 := Lib.hid (WrAt.new w1)
    have hB1 := Lib.hid hb1
    have hg1 : w1.heap.size ≤ w1.heap.size + 1 := Nat.le_succ _
    clear hb1 hcv
    unfold markObj at hA1
    generalize (w1.alloc (.cells #[.int .u8 68, .int .u8 70, .int .u8 65, .int .u8 49] 5 (4, 5))).alloc (.cells #[.slice (some ⟨w1.heap.size, 0, none⟩) 4 4] 53) = W at *
    generalize w1.heap.size + 1 = g at *
    generalize Value.slice (some ⟨w1.heap.size, 0, none⟩) 4 4 = v1 at *
    go_wp2_with (go_at_call 23; refine (put_nums hA1.out hg1 [(m.length : Int)] (by simp; omega) (by simp) (num m.length) (by have := num_len10 m.length (by omega); simp; omega) (by simp)).mono ?_; rintro e w2 ⟨v2, rfl, hA2⟩; have hA2' := Lib.hid hA2.here; clear hA2)
    have hhd0 := Lib.hid (hd_zero m)
    rw [← hhd0.out] at hA2'
    have hhdf := Lib.hid (hd_full m)
    have hhds := Lib.hid (hd_succ m)
    have hhdl := Lib.hid (hd_le m)
    have hBW : w.heap.size ≤ w1.heap.size := hB1.out.size
    clear hA1
    go_loopw [24] (fun ii wr => ∃ (i : Nat) (v : Value), i ≤ m.length ∧ ii = .int .i64 i ∧ Hid (WrAt wr w1 wr w1.heap.size g v.ownBlock v (hd m i))) (fun ii _ => m.length - (intOf ii).toNat)
    case atStart => exact ⟨0, v2, by omega, rfl, hA2'⟩
    case round =>
      clear hA2'
      obtain ⟨i, v, hi, rfl, hA⟩ := hrel
      obtain ⟨wo, rfl⟩ : ∃ wo : World, wo = wr := ⟨_, rfl⟩
      by_cases hlt : i < m.length
      · have hd1 : decide ((i : Int) < (m.length : Int)) = true := decide_eq_true (by omega)
        have hwB := Lib.hid (below_then hB1.out hB1.out.size hA.out.b)
        obtain ⟨ad, A1, c1, hAd, hc0, hc1, hl1, hC1⟩ := at_T57 hRH.out (i : Int) (by omega) (by omega)
        subst hAd
        replace hc0 := pw_cell_below hwB.out hc0
        replace hc1 := pw_cell_below hwB.out hc1
        rw [rd57 m i hlt] at hc0 hc1 hl1 hC1
        rw [Int.toNat_natCast] at hc0 hc1
        have hC1H := Lib.hid hC1
        have hgai := Lib.hid (hga.out m[i] (List.getElem_mem hlt))
        have hoi := Lib.hid (hoH.out.2 m[i] (List.getElem_mem hlt))
        have hsu := Lib.hid (hhds.out i hlt)
        have hle1 := hhdl.out (i + 1)
        have hbl2 := hbl.out
        rw [hsu.out, List.length_append] at hle1
        have hst0 := Lib.hid (st_zero m[i])
        have hstf := Lib.hid (st_full m[i])
        have hsts := Lib.hid (st_succ m[i])
        have hstl := Lib.hid (st_le m[i])
        have hal := hgai.out.1
        have hws : IntKind.u64.wrap ((m[i].f1.length : Nat) : Int) = ((m[i].f1.length : Nat) : Int) := by rw [IntKind.wrap_u64]; omega
        clear hC1 hwB
        generalize m[i] = s at *
        generalize hd m i = ys at *
        go_upto_region 8 with (fail)
        have hS6 := Blk.new wo 57 #[.int .u64 s.f0, .slice A1 s.f1.length c1]
        have hA3 := Lib.hid (hA.out.below (Nat.le_trans hg1 (Nat.le_of_lt hA.out.blk.lt)) (below_alloc (Below.refl _ _) (.cells #[.int .u64 s.f0, .slice A1 s.f1.length c1] 57))).here
        generalize wo.alloc (.cells #[.int .u64 s.f0, .slice A1 s.f1.length c1] 57) = We at *
        generalize wo.heap.size = h6 at *
        have hc6 : We.cell? ⟨h6, 0, none⟩ = some (.int .u64 s.f0) := hS6.cell 0
        have hc7 : We.cell? ⟨h6, 1, none⟩ = some (.slice A1 s.f1.length c1) := hS6.cell 1
        have hf0 := hoi.out.1
        have hstz := hstl.out 0
        rw [hst0.out, List.length_append] at hstz
        go_upto_region 9 with (go_at_call 23; refine (put_nums hA3.out hg1 [s.f0, (s.f1.length : Int)] (by simp; omega) (by simp) (num s.f0.toNat ++ num s.f1.length) (by rw [List.length_append]; omega) (by simp)).mono ?_; rintro e w3 ⟨v3, rfl, hA4⟩)
        have hc8 : w3.cell? ⟨h6, 1, none⟩ = some (.slice A1 s.f1.length c1) := (hA3.out.keep hS6 (by decide) (by decide) hA4).cell 1
        have hA5 := Lib.hid hA4.here
        rw [← hst0.out] at hA5
        clear hA4 hc6 hc7 hS6 hf0 hstz
        go_wp2
        clear hc8
        go_loopw [40] (fun jj wr => ∃ (j : Nat) (u : Value), j ≤ s.f1.length ∧ jj = .int .i64 j ∧ Hid (WrAt wr w1 wr w1.heap.size g u.ownBlock u (ys ++ st s j))) (fun jj _ => s.f1.length - (intOf jj).toNat)
        case atStart => exact ⟨0, v3, by omega, rfl, hA5⟩
        case round =>
          clear hA5
          obtain ⟨j, u, hj, rfl, hU⟩ := hrel
          obtain ⟨wp, rfl⟩ : ∃ wp : World, wp = wr := ⟨_, rfl⟩
          by_cases hlj : j < s.f1.length
          · have hd2 : decide ((j : Int) < (s.f1.length : Int)) = true := decide_eq_true (by omega)
            have hwB := Lib.hid (below_then hB1.out hB1.out.size hU.out.b)
            have hCp := Kd.C_below hC1H.out hwB.out
            obtain ⟨ad2, hAd2, hk0, hk1, hk2⟩ := at_T59 hCp (j : Int) (by omega) (by omega)
            subst hAd2
            rw [rd59 s.f1 j hlj] at hk0 hk1 hk2
            rw [Int.toNat_natCast] at hk0 hk1 hk2
            have hoa := hoi.out.2.2 s.f1[j] (List.getElem_mem hlj)
            have hsj := hsts.out j hlj
            have hsl := hstl.out (j + 1)
            rw [hsj] at hsl
            simp only [List.length_append, List.length_cons] at hsl
            have hsjH : Hid (ys ++ st s (j + 1) = (ys ++ st s j) ++ [s.f1[j].f0, s.f1[j].f1] ++ num s.f1[j].f2.toNat) := Lib.hid (by rw [hsj]; simp only [List.append_assoc, List.cons_append, List.nil_append])
            have hlz : (ys ++ st s j).length + 2 + (num s.f1[j].f2.toNat).length ≤ 1000000000 := by rw [List.length_append]; omega
            have hwt : IntKind.u64.wrap s.f1[j].f2 = s.f1[j].f2 := by rw [IntKind.wrap_u64]; have := hoa.2.2; omega
            clear hCp hsj hsl
            generalize s.f1[j] = q at *
            generalize ys ++ st s j = zs at *
            go_upto_region 12 with (fail)
            have hS8 := Blk.new wp 59 #[.int .u8 q.f0, .int .u8 q.f1, .int .i64 q.f2]
            have hA6 := (hU.out.below (Nat.le_trans hg1 (Nat.le_of_lt hU.out.blk.lt)) (below_alloc (Below.refl _ _) (.cells #[.int .u8 q.f0, .int .u8 q.f1, .int .i64 q.f2] 59))).here
            generalize wp.alloc (.cells #[.int .u8 q.f0, .int .u8 q.f1, .int .i64 q.f2] 59) = Wa at *
            generalize wp.heap.size = h8 at *
            have hbw : w1.heap.size ≤ Wa.heap.size := Nat.le_trans hg1 (Nat.le_of_lt hA6.blk.lt)
            have hgh : g ≠ h8 := blk_ne hA6.blk hS8 (by decide)
            have hrh : ∀ k, u.ownBlock = some k → k ≠ h8 := own_ne (by decide) hA6.r hS8
            clear hk0 hk1 hk2
            refine start_ (n := 14) (S := (fun w' => w'.cell? ⟨g, 0, none⟩ = some u ∧ w'.cell? ⟨h8, 0, none⟩ = some (.int .u8 q.f0) ∧ w'.cell? ⟨h8, 1, none⟩ = some (.int .u8 q.f1))) (ds := [13]) #[false, false, false, false, false, false, false, false, false, false, false, false, false, false] (by kernel_rfl) rfl rfl ?_ (fun hHeld => ?_)
            · exact ⟨hA6.blk.cell 0, hS8.cell 0, hS8.cell 1⟩
            have hA7 := hA6.below hbw (below_drew1 (Below.refl _ _))
            have hS9 : Blk Wa.drew h8 59 #[.int .u8 q.f0, .int .u8 q.f1, .int .i64 q.f2] := hS8
            have hbw2 : w1.heap.size ≤ Wa.drew.heap.size := hbw
            generalize Wa.drew = Wb at *
            refine pure_ (i := 0) (N := (some 44)) (v := ?_) (a' := ?_) #[true, false, false, false, false, false, false, false, false, false, false, false, false, false] rfl rfl (by kernel_rfl) (fun _ _ _ h => h) (Or.inl ⟨by rfl, ?_⟩) ?_ ?_
            rotate_left
            · intro w'
              go_simp
              with_reducible rfl
            rotate_left
            · simp only [Act.put, List.setIfInBounds_toArray, List.set_cons_zero, List.set_cons_succ, i64_w, i32_w]
              rfl
            refine pure_ (i := 1) (N := (some 45)) (v := ?_) (a' := ?_) #[true, true, false, false, false, false, false, false, false, false, false, false, false, false] rfl rfl (by kernel_rfl) (fun _ _ _ h => h) (Or.inl ⟨by rfl, ?_⟩) ?_ ?_
            rotate_left
            · intro w'
              go_simp
              with_reducible rfl
            rotate_left
            · simp only [Act.put, List.setIfInBounds_toArray, List.set_cons_zero, List.set_cons_succ, i64_w, i32_w]
              rfl
            refine pure_ (i := 2) (N := (some 46)) (v := ?_) (a' := ?_) #[true, true, true, false, false, false, false, false, false, false, false, false, false, false] rfl rfl (by kernel_rfl) (fun _ _ _ h => h) (Or.inl ⟨by rfl, ?_⟩) ?_ ?_
            rotate_left
            · intro w'
              go_simp
              with_reducible rfl
            rotate_left
            · simp only [Act.put, List.setIfInBounds_toArray, List.set_cons_zero, List.set_cons_succ, i64_w, i32_w]
              rfl
            refine pure_ (i := 3) (N := (some 47)) (v := ?_) (a' := ?_) #[true, true, true, true, false, false, false, false, false, false, false, false, false, false] rfl rfl (by kernel_rfl) (fun _ _ _ h => h) (Or.inl ⟨by rfl, ?_⟩) ?_ ?_
            rotate_left
            · intro w'
              go_simp
              with_reducible rfl
            rotate_left
            · simp only [Act.put, List.setIfInBounds_toArray, List.set_cons_zero, List.set_cons_succ, i64_w, i32_w]
              rfl
            refine take_ (i := 4) (N := (some 48)) (v := ?_) (a' := ?_) #[true, true, true, true, true, false, false, false, false, false, false, false, false, false] rfl rfl (by kernel_rfl) (fun _ _ _ h => h) (Or.inl ⟨by rfl, ?_⟩) hHeld ?_ ?_
            rotate_left
            · intro w' ⟨hq0, hq1, hq2⟩
              go_simp
              with_reducible rfl
            rotate_left
            · simp only [Act.put, List.setIfInBounds_toArray, List.set_cons_zero, List.set_cons_succ, i64_w, i32_w]
              rfl
            refine pure_ (i := 5) (N := (some 49)) (v := ?_) (a' := ?_) #[true, true, true, true, true, true, false, false, false, false, false, false, false, false] rfl rfl (by kernel_rfl) (fun _ _ _ h => h) (Or.inl ⟨by rfl, ?_⟩) ?_ ?_
            rotate_left
            · intro w'
              go_simp
              with_reducible rfl
            rotate_left
            · simp only [Act.put, List.setIfInBounds_toArray, List.set_cons_zero, List.set_cons_succ, i64_w, i32_w]
              rfl
            refine take_ (i := 6) (N := (some 50)) (v := ?_) (a' := ?_) #[true, true, true, true, true, true, true, false, false, false, false, false, false, false] rfl rfl (by kernel_rfl) (fun _ _ _ h => h) (Or.inl ⟨by rfl, ?_⟩) hHeld ?_ ?_
            rotate_left
            · intro w' ⟨hq0, hq1, hq2⟩
              go_simp
              with_reducible rfl
            rotate_left
            · simp only [Act.put, List.setIfInBounds_toArray, List.set_cons_zero, List.set_cons_succ, i64_w, i32_w]
              rfl
            refine pure_ (i := 7) (N := (some 51)) (v := ?_) (a' := ?_) #[true, true, true, true, true, true, true, true, false, false, false, false, false, false] rfl rfl (by kernel_rfl) (fun _ _ _ h => h) (Or.inl ⟨by rfl, ?_⟩) ?_ ?_
            rotate_left
            · intro w'
              go_simp
              with_reducible rfl
            rotate_left
            · simp only [Act.put, List.setIfInBounds_toArray, List.set_cons_zero, List.set_cons_succ, i64_w, i32_w]
              rfl
            refine take_ (i := 8) (N := (some 52)) (v := ?_) (a' := ?_) #[true, true, true, true, true, true, true, true, true, false, false, false, false, false] rfl rfl (by kernel_rfl) (fun _ _ _ h => h) (Or.inl ⟨by rfl, ?_⟩) hHeld ?_ ?_
            rotate_left
            · intro w' ⟨hq0, hq1, hq2⟩
              go_simp
              with_reducible rfl
            rotate_left
            · simp only [Act.put, List.setIfInBounds_toArray, List.set_cons_zero, List.set_cons_succ, i64_w, i32_w]
              rfl
            refine one_ (i := 9) (N := (some 53)) #[true, true, true, true, true, true, true, true, true, true, false, false, false, false] rfl rfl (by kernel_rfl) (by decide) (fun K hK => ?_)
            refine value_ (w1 := ?_) (v := ?_) (by rfl) rfl ?_ ?_
            rotate_left 2
            · go_simp
              constructor
              · rfl
              · rfl
            have hb9 := below_alloc (Below.refl Wb.heap.size Wb) (.cells #[.int .u8 q.f0, .int .u8 q.f1] 5)
            have hC9 : (Kd.int .u8).C (Wb.alloc (.cells #[.int .u8 q.f0, .int .u8 q.f1] 5)) (some ⟨Wb.heap.size, 0, none⟩) 2 [q.f0, q.f1] := isU_new Wb 5 .u8 [q.f0, q.f1] (by simp)
            have hA9 := hA7.below hbw2 hb9
            have hS10 := hS9.below hb9 hS9.lt
            have hbw3 : w1.heap.size ≤ (Wb.alloc (.cells #[.int .u8 q.f0, .int .u8 q.f1] 5)).heap.size := Nat.le_trans hbw2 hb9.size
            refine hK.out _ _ ⟨hA9.blk.cell 0, hS10.cell 0, hS10.cell 1⟩ (fun hHeld => ?_)
            clear hK K
            refine norm_ (a' := ?_) ?_ ?_
            rotate_left
            · show Act.put _ (some 53) _ = _
              simp only [Act.put, List.setIfInBounds_toArray, List.set_cons_zero, List.set_cons_succ, i64_w, i32_w]
              rfl
            generalize Wb.alloc (.cells #[.int .u8 q.f0, .int .u8 q.f1] 5) = Wc at *
            refine one_ (i := 10) (N := (some 54)) #[true, true, true, true, true, true, true, true, true, true, true, false, false, false] rfl rfl (by kernel_rfl) (by decide) (fun K hK => ?_)
            refine row_append (w0 := w1) rfl (.tmp 48) (.tmp 53) rfl Try.underlying25 info5 u zs [q.f0, q.f1] (some ⟨Wb.heap.size, 0, none⟩) 2 rfl rfl hA9.r hC9 (by simp) hA9.b hbw3 (by simp only [List.length_cons, List.length_nil]; omega) ?_
            intro v4 Wd ho4 hb4 hg4 hat4
            obtain ⟨A4, c4, hv4⟩ := Kd.R_slice ho4
            rw [List.length_append] at hv4
            subst hv4
            have hA10 := hA9.put hg1 ho4 hb4 hg4 hat4
            obtain ⟨hcg, hfg⟩ := hA9.cellg hg4
            have hS11 : Blk Wd h8 59 #[.int .u8 q.f0, .int .u8 q.f1, .int .i64 q.f2] := (hg4.block h8 hS10.lt (fun e => own_ne (by decide) hA9.r hS10 h8 e.symm rfl)).trans hS10
            refine hK.out _ _ ⟨hcg, hS11.cell 0, hS11.cell 1⟩ (fun hHeld => ?_)
            clear hK K
            refine norm_ (a' := ?_) ?_ ?_
            rotate_left
            · show Act.put _ (some 54) _ = _
              simp only [Act.put, List.setIfInBounds_toArray, List.set_cons_zero, List.set_cons_succ, i64_w, i32_w]
              rfl
            refine pure_ (i := 11) (N := (some 55)) (v := ?_) (a' := ?_) #[true, true, true, true, true, true, true, true, true, true, true, true, false, false] rfl rfl (by kernel_rfl) (fun _ _ _ h => h) (Or.inl ⟨by rfl, ?_⟩) ?_ ?_
            rotate_left
            · intro w'
              go_simp
              with_reducible rfl
            rotate_left
            · simp only [Act.put, List.setIfInBounds_toArray, List.set_cons_zero, List.set_cons_succ, i64_w, i32_w]
              rfl
            refine pure_ (i := 12) (N := (some 56)) (v := ?_) (a' := ?_) #[true, true, true, true, true, true, true, true, true, true, true, true, true, false] rfl rfl (by kernel_rfl) (fun _ _ _ h => h) (Or.inl ⟨by rfl, ?_⟩) ?_ ?_
            rotate_left
            · intro w'
              go_simp
              with_reducible rfl
            rotate_left
            · simp only [Act.put, List.setIfInBounds_toArray, List.set_cons_zero, List.set_cons_succ, i64_w, i32_w]
              rfl
            refine last_ (i := 13) (N := none) #[true, true, true, true, true, true, true, true, true, true, true, true, true, true] rfl rfl (by kernel_rfl) (by decide) (fun K hK => ?_)
            refine skip_ (w1 := ?_) (by rfl) rfl ?_ ?_
            rotate_left
            · go_simp
              rfl
            refine hK.out _ _ ?_
            clear hK K
            refine done_ (by kernel_rfl) ?_
            have hS12 : Blk (Wd.setCell ⟨g, 0, none⟩ (.slice A4 (zs.length + [q.f0, q.f1].length) c4)) h8 59 #[.int .u8 q.f0, .int .u8 q.f1, .int .i64 q.f2] := hS11.far (fun e => hgh e.symm) _
            have hA11 := Lib.hid hA10.here
            have hc12 : (Wd.setCell ⟨g, 0, none⟩ (.slice A4 (zs.length + [q.f0, q.f1].length) c4)).cell? ⟨h8, 2, none⟩ = some (.int .i64 q.f2) := hS12.cell 2
            clear hA10 hA9 hA7 hA6 hHeld hcg hfg hg4 hat4 hb4 ho4 hC9 hS9 hS10 hS11 hS12 hS8
            generalize Wd.setCell ⟨g, 0, none⟩ (.slice A4 (zs.length + [q.f0, q.f1].length) c4) = We2 at *
            generalize Value.slice A4 (zs.length + [q.f0, q.f1].length) c4 = v4 at *
            go_wp2_with (go_at_call 23; refine (put_nums hA11.out hg1 [q.f2] (by simp; have := hoa.2.2; omega) (by simp) (num q.f2.toNat) (by rw [List.length_append]; simp only [List.length_cons, List.length_nil]; omega) (by simp)).mono ?_; rintro e w5 ⟨v5, rfl, hA12⟩)
            have hA13 := Lib.hid hA12.here
            clear hA12 hA11
            go_roundw
            case rel => exact ⟨j + 1, v5, by omega, by go_num, by rw [hsjH.out]; exact hA13⟩
            case measure => simp [intOf]; omega
          · have hd2 : decide ((j : Int) < (s.f1.length : Int)) = false := decide_eq_false (by omega)
            obtain rfl : j = s.f1.length := by omega
            rw [hstf.out, ← hsu.out] at hU
            go_wp2
            go_roundw
            case rel => exact ⟨i + 1, u, by omega, by go_num, hU⟩
            case measure => simp [intOf]; omega
      · have hd1 : decide ((i : Int) < (m.length : Int)) = false := decide_eq_false (by omega)
        obtain rfl : i = m.length := by omega
        rw [hhdf.out] at hA
        obtain ⟨A9, c9, hv9, hl9, hC9⟩ := hA.out.r.reads
        subst hv9
        have hbw : w1.heap.size ≤ wo.heap.size := Nat.le_trans hg1 (Nat.le_of_lt hA.out.blk.lt)
        have hA1 := hA.out
        have hbl2 := hbl.out
        have hsum := Lib.hid (sum_f (body m) (by omega) ((body m).length + 1) (by omega))
        clear hC9 hhdf hhds hhdl
        have hput := Lib.hid (show putL m = body m ++ four (sumL (body m)) from rfl)
        generalize body m = bs at *
        generalize sumL bs = sm at *
        go_wp2
        refine start_ (n := 13) (S := (fun w' => w'.cell? ⟨g, 0, none⟩ = some (.slice A9 bs.length c9))) (ds := []) #[false, false, false, false, false, false, false, false, false, false, false, false, false] (by kernel_rfl) rfl rfl ?_ (fun hHeld => ?_)
        · exact hA1.blk.cell 0
        have hA2 := hA1.below hbw (below_drew1 (Below.refl _ _))
        have hbw2 : w1.heap.size ≤ wo.drew.heap.size := hbw
        generalize wo.drew = Wa at *
        refine pure_ (i := 0) (N := (some 65)) (v := ?_) (a' := ?_) #[true, false, false, false, false, false, false, false, false, false, false, false, false] rfl rfl (by kernel_rfl) (fun _ _ _ h => h) (Or.inl ⟨by rfl, ?_⟩) ?_ ?_
        rotate_left
        · intro w'
          go_simp
          with_reducible rfl
        rotate_left
        · simp only [Act.put, List.setIfInBounds_toArray, List.set_cons_zero, List.set_cons_succ, i64_w, i32_w]
          rfl
        refine pure_ (i := 1) (N := (some 66)) (v := ?_) (a' := ?_) #[true, true, false, false, false, false, false, false, false, false, false, false, false] rfl rfl (by kernel_rfl) (fun _ _ _ h => h) (Or.inl ⟨by rfl, ?_⟩) ?_ ?_
        rotate_left
        · intro w'
          go_simp
          with_reducible rfl
        rotate_left
        · simp only [Act.put, List.setIfInBounds_toArray, List.set_cons_zero, List.set_cons_succ, i64_w, i32_w]
          rfl
        refine pure_ (i := 2) (N := (some 67)) (v := ?_) (a' := ?_) #[true, true, true, false, false, false, false, false, false, false, false, false, false] rfl rfl (by kernel_rfl) (fun _ _ _ h => h) (Or.inl ⟨by rfl, ?_⟩) ?_ ?_
        rotate_left
        · intro w'
          go_simp
          with_reducible rfl
        rotate_left
        · simp only [Act.put, List.setIfInBounds_toArray, List.set_cons_zero, List.set_cons_succ, i64_w, i32_w]
          rfl
        refine take_ (i := 3) (N := (some 68)) (v := ?_) (a' := ?_) #[true, true, true, true, false, false, false, false, false, false, false, false, false] rfl rfl (by kernel_rfl) (fun _ _ _ h => h) (Or.inl ⟨by rfl, ?_⟩) hHeld ?_ ?_
        rotate_left
        · intro w' hSw
          go_simp
          with_reducible rfl
        rotate_left
        · simp only [Act.put, List.setIfInBounds_toArray, List.set_cons_zero, List.set_cons_succ, i64_w, i32_w]
          rfl
        refine pure_ (i := 4) (N := (some 69)) (v := ?_) (a' := ?_) #[true, true, true, true, true, false, false, false, false, false, false, false, false] rfl rfl (by kernel_rfl) (fun _ _ _ h => h) (Or.inl ⟨by rfl, ?_⟩) ?_ ?_
        rotate_left
        · intro w'
          go_simp
          with_reducible rfl
        rotate_left
        · simp only [Act.put, List.setIfInBounds_toArray, List.set_cons_zero, List.set_cons_succ, i64_w, i32_w]
          rfl
        refine pure_ (i := 5) (N := (some 70)) (v := ?_) (a' := ?_) #[true, true, true, true, true, true, false, false, false, false, false, false, false] rfl rfl (by kernel_rfl) (fun _ _ _ h => h) (Or.inl ⟨by rfl, ?_⟩) ?_ ?_
        rotate_left
        · intro w'
          go_simp
          with_reducible rfl
        rotate_left
        · simp only [Act.put, List.setIfInBounds_toArray, List.set_cons_zero, List.set_cons_succ, i64_w, i32_w]
          rfl
        refine pure_ (i := 6) (N := (some 71)) (v := ?_) (a' := ?_) #[true, true, true, true, true, true, true, false, false, false, false, false, false] rfl rfl (by kernel_rfl) (fun _ _ _ h => h) (Or.inl ⟨by rfl, ?_⟩) ?_ ?_
        rotate_left
        · intro w'
          go_simp
          with_reducible rfl
        rotate_left
        · simp only [Act.put, List.setIfInBounds_toArray, List.set_cons_zero, List.set_cons_succ, i64_w, i32_w]
          rfl
        refine take_ (i := 7) (N := (some 72)) (v := ?_) (a' := ?_) #[true, true, true, true, true, true, true, true, false, false, false, false, false] rfl rfl (by kernel_rfl) (fun _ _ _ h => h) (Or.inl ⟨by rfl, ?_⟩) hHeld ?_ ?_
        rotate_left
        · intro w' hSw
          go_simp
          with_reducible rfl
        rotate_left
        · simp only [Act.put, List.setIfInBounds_toArray, List.set_cons_zero, List.set_cons_succ, i64_w, i32_w]
          rfl
        refine one_ (i := 8) (N := (some 73)) #[true, true, true, true, true, true, true, true, true, false, false, false, false] rfl rfl (by kernel_rfl) (by decide) (fun K hK => ?_)
        refine goes_ Try.func15 (by kernel_rfl) rfl #[.slice A9 bs.length c9] (by rfl) rfl rfl (by simp only [List.map_toArray, List.map_cons, List.map_nil]; rfl) ?_
        obtain ⟨A9', c9', hv9, _, hC9⟩ := hA2.r.reads
        injection hv9 with e1 e2 e3
        subst e1 e3
        refine (dfacode_Sum.calls _ A9 c9 bs sm _ hC9 hl9 hsum.out).mono ?_
        rintro e Wb ⟨rfl, hdr⟩
        obtain ⟨nd, rfl⟩ := hdr.out
        refine ⟨_, rfl, ?_⟩
        have hb3 := pw_below_drewN (Below.refl Wa.heap.size Wa) nd
        have hA3 := hA2.below hbw2 hb3
        have hbw3 : w1.heap.size ≤ (Wa.drewN nd).heap.size := hbw2
        refine hK.out _ _ (hA3.blk.cell 0) (fun hHeld => ?_)
        clear hK K
        refine norm_ (a' := ?_) ?_ ?_
        rotate_left
        · show Act.put _ (some 73) _ = _
          simp only [Act.put, List.setIfInBounds_toArray, List.set_cons_zero, List.set_cons_succ, i64_w, i32_w]
          rfl
        generalize Wa.drewN nd = Wb at *
        refine one_ (i := 9) (N := (some 74)) #[true, true, true, true, true, true, true, true, true, true, false, false, false] rfl rfl (by kernel_rfl) (by decide) (fun K hK => ?_)
        refine goes_ Try.func24 (by kernel_rfl) rfl #[.int .u32 sm] (by rfl) rfl rfl (by simp only [List.map_toArray, List.map_cons, List.map_nil]; rfl) ?_
        refine (dfacode_four.calls sm (four sm) _ rfl).mono ?_
        rintro e Wc ⟨v10, rfl, ho10, hb10⟩
        refine ⟨_, rfl, ?_⟩
        have hA4 := hA3.below hbw3 hb10
        have hbw4 : w1.heap.size ≤ Wc.heap.size := Nat.le_trans hbw3 hb10.size
        refine hK.out _ _ (hA4.blk.cell 0) (fun hHeld => ?_)
        clear hK K
        refine norm_ (a' := ?_) ?_ ?_
        rotate_left
        · show Act.put _ (some 74) _ = _
          simp only [Act.put, List.setIfInBounds_toArray, List.set_cons_zero, List.set_cons_succ, i64_w, i32_w]
          rfl
        obtain ⟨A10, c10, hv10, _, hC10⟩ := Kd.R_reads ho10
        subst hv10
        refine one_ (i := 10) (N := (some 75)) #[true, true, true, true, true, true, true, true, true, true, true, false, false] rfl rfl (by kernel_rfl) (by decide) (fun K hK => ?_)
        refine row_append (w0 := w1) rfl (.tmp 68) (.tmp 74) rfl Try.underlying25 info5 _ bs (four sm) A10 c10 rfl rfl hA4.r hC10 (by rw [four_len]; omega) hA4.b hbw4 (by rw [four_len]; omega) ?_
        intro v11 Wd ho11 hb11 hg11 hat11
        obtain ⟨hcg, hfg⟩ := hA4.cellg hg11
        refine hK.out _ _ hcg (fun hHeld => ?_)
        clear hK K
        refine norm_ (a' := ?_) ?_ ?_
        rotate_left
        · show Act.put _ (some 75) _ = _
          simp only [Act.put, List.setIfInBounds_toArray, List.set_cons_zero, List.set_cons_succ, i64_w, i32_w]
          rfl
        refine pure_ (i := 11) (N := (some 2)) (v := ?_) (a' := ?_) #[true, true, true, true, true, true, true, true, true, true, true, true, false] rfl rfl (by kernel_rfl) (fun _ _ _ h => h) (Or.inl ⟨by rfl, ?_⟩) ?_ ?_
        rotate_left
        · intro w'
          go_simp
          with_reducible rfl
        rotate_left
        · simp only [Act.put, List.setIfInBounds_toArray, List.set_cons_zero, List.set_cons_succ, i64_w, i32_w]
          rfl
        refine pure_ (i := 12) (N := (some 3)) (v := ?_) (a' := ?_) #[true, true, true, true, true, true, true, true, true, true, true, true, true] rfl rfl (by kernel_rfl) (fun _ _ _ h => h) (Or.inl ⟨by rfl, ?_⟩) ?_ ?_
        rotate_left
        · intro w'
          go_simp
          with_reducible rfl
        rotate_left
        · simp only [Act.put, List.setIfInBounds_toArray, List.set_cons_zero, List.set_cons_succ, i64_w, i32_w]
          rfl
        refine done_ (by kernel_rfl) ?_
        have hR11 := Lib.hid (Kd.R_lower ho11 hBW)
        rw [← hput.out] at hR11
        have hB11 := Lib.hid (below_then hB1.out hBW hb11)
        clear hA4 hA3 hA2 hA1 hHeld hcg hfg hg11 hat11 hb11 ho11 hC10 ho10 hb10 hb3 hA hC9
        go_wp2
        go_ret2
        exact ⟨_, rfl, hR11.out, hB11.out⟩
  · rw [if_neg hg] at hck
    rw [if_neg hg, if_neg hg]
    clear hR hp hK
    go_enter Try.func9, Try.ntmps9
    go_wp2_with (go_at_call 22; refine (hck.out _ hRH.out).mono ?_; rintro e w1 ⟨rfl, hb1⟩)
    go_ret2
    exact ⟨_, rfl, Kd.R_nil _ _ _ _ _, hb1⟩
theorem P.dfacode_Put.calls (A : Option Addr) (c : Nat) (m : List S57) (r1 : List Int) (r2 : Int) (w : World) (hR : Kd.C k57 w A m.length m) (hc : m.length ≤ c) (h : P.dfacode_Put.f m = some (r1, r2)) :
    Calls Try.prog 9 #[.slice A m.length c] w fun e w' => ∃ v0 : Value, e = .returned (.tuple #[v0, .int .i64 r2]) ∧ Kd.R (Kd.int .u8) 5 w' w.heap.size (fun _ => True) v0 r1 ∧ Below w.heap.size w w' := by
  unfold P.dfacode_Put.f at h
  split at h
  · rename_i hp
    injection h with h
    have h1 := put_c A c m w hR hc hp
    by_cases hg : goodB m = true
    · rw [if_pos hg] at h
      rw [if_pos hg, if_pos hg] at h1
      injection h with e1 e2
      subst e1 e2
      exact h1
    · rw [if_neg hg] at h
      rw [if_neg hg, if_neg hg] at h1
      injection h with e1 e2
      subst e1 e2
      exact h1
  · cases h
end Go.Proofs.Ytokdggmobhnnpaa
