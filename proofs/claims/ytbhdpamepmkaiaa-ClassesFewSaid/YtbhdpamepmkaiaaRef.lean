/- classes.refined: what it comes to, and its walk. Own text. -/
import Derived.Test.YtbhdpamepmkaiaaBase
import Derived.Test.YtbhdpamepmkaiaaMapV
import Derived.Deep.RegionHeld3
import Derived.Deep.LoopGhost
import Derived.Deep.DeepCutAuto
namespace Go.Proofs.Ytbhdpamepmkaiaa
open Go.RowKit Go.Proofs.Ytbhdpamepmkaiaa.P Go.Proofs.Ytbhdpamepmkaiaa.Plain Go.Proofs.YtbhdpamepmkaiaaW.PrintWords Go.Proofs.YtbhdpamepmkaiaaW.PrintLast Go.Proofs.YtbhdpamepmkaiaaW.PrintMore
set_option linter.unusedVariables false

theorem size51 : (Try.prog.info? 51).map (·.size) = some 256 := by kernel_rfl
def zerosI : Array Value := arI .i64 (List.replicate 256 0)
theorem zero51 : ∀ w : World, (zeroValue 51).run Try.prog w = .ok (.agg zerosI) w := fun _ => by kernel_rfl

/-- The views of the first b bytes, in the order of their coming. -/
def seenL (pl : List Int) (g : Int → Int) : Nat → List (Int × Int)
  | 0 => []
  | b + 1 => if look (pl.getD b 0, g b) (seenL pl g b) 0 = none then seenL pl g b ++ [(pl.getD b 0, g b)] else seenL pl g b
/-- The parts, the first b bytes having been told anew. -/
def refP (pl : List Int) (g : Int → Int) : Nat → List Int
  | 0 => pl
  | b + 1 => (refP pl g b).set b (((look (pl.getD b 0, g b) (seenL pl g (b + 1)) 0).getD 0 : Nat) : Int)
theorem refP_len (pl : List Int) (g : Int → Int) (b : Nat) : (refP pl g b).length = pl.length := by
  induction b with
  | zero => rfl
  | succ b ih => simp [refP, ih]
theorem refP_ge (pl : List Int) (g : Int → Int) (b : Nat) : ∀ x, b ≤ x → (refP pl g b).getD x 0 = pl.getD x 0 := by
  induction b with
  | zero => intro x _; rfl
  | succ b ih =>
    intro x hx
    rw [← ih x (by omega)]
    simp only [refP, List.getD_eq_getElem?_getD]
    rw [List.getElem?_set_ne (by omega)]

theorem of1_b {w W : World} {v : Value} {m : List S48} (i b : Int) (bm bi : Nat) (h : IsM w v m) (hm : w.cell? ⟨bm, 0, none⟩ = some v) (hi : w.cell? ⟨bi, 0, none⟩ = some (.int .i64 i)) (hb : Below w.heap.size w W) (b' : Int) (hbb : b' = b) :
    Calls Try.prog 24 #[.int .u8 b', .pointer (some ⟨bm, 0, none⟩), .pointer (some ⟨bi, 0, none⟩)] W fun e w' => e = .returned (.int .i64 (nextM m i b)) ∧ Below W.heap.size W w' :=
  hbb ▸ of1_c (h.below hb) i b bm bi (pw_cell_below hb hm) (pw_cell_below hb hi)
theorem cell_two_new (w : World) (x y : Value) (t : TypeId) : (w.alloc (.cells #[x, y] t)).cell? ⟨w.heap.size, 0, none⟩ = some x ∧ (w.alloc (.cells #[x, y] t)).cell? ⟨w.heap.size, 1, none⟩ = some y ∧
    (w.alloc (.cells #[x, y] t)).frozen? ⟨w.heap.size, 0, none⟩ = false ∧ (w.alloc (.cells #[x, y] t)).frozen? ⟨w.heap.size, 1, none⟩ = false :=
  ⟨(Blk.new w t #[x, y]).cell 0, (Blk.new w t #[x, y]).cell 1, (Blk.new w t #[x, y]).frozen 0, (Blk.new w t #[x, y]).frozen 1⟩
/-- What the round's facts are, in any world. -/
structure RefAt (w wr : World) (P Z : Array Value) (S : List (Int × Int)) : Prop where
  p : Blk wr w.heap.size 51 P
  r : Blk wr (w.heap.size + 1) 51 Z
  m : MapIs wr (w.heap.size + 2) S
  b : Below w.heap.size w wr
theorem RefAt.below {w wr w1 : World} {P Z : Array Value} {S : List (Int × Int)} (h : RefAt w wr P Z S) (hb : Below wr.heap.size wr w1) : RefAt w w1 P Z S :=
  ⟨h.p.below hb h.p.lt, h.r.below hb h.r.lt, h.m.keep (hb.block _ h.m.lt), below_then h.b h.b.size hb⟩
theorem RefAt.drew {w wr : World} {P Z : Array Value} {S : List (Int × Int)} (h : RefAt w wr P Z S) : RefAt w wr.drew P Z S := h.below (below_drew1 (Below.refl _ _))
theorem RefAt.alloc {w wr : World} {P Z : Array Value} {S : List (Int × Int)} (h : RefAt w wr P Z S) (o : Obj) : RefAt w (wr.alloc o) P Z S := h.below (below_alloc (Below.refl _ _) o)
theorem RefAt.far {w wr : World} {P Z : Array Value} {S : List (Int × Int)} (h : RefAt w wr P Z S) {p : Addr} (hp : w.heap.size + 2 < p.block) (u : Value) : RefAt w (wr.setCell p u) P Z S :=
  ⟨h.p.far (by omega) u, h.r.far (by omega) u, h.m.keep (Below.heap_setCell wr p u _ (by omega)), h.b.setCell (by omega) u⟩

set_option maxRecDepth 20000 in
set_option maxHeartbeats 1000000 in
theorem refined_c (pl : List Int) (hl : pl.length = 256) {v : Value} {m : List S48} (i : Int) (bm bi : Nat) (w : World) (h : IsM w v m) (hm : w.cell? ⟨bm, 0, none⟩ = some v) (hi : w.cell? ⟨bi, 0, none⟩ = some (.int .i64 i)) :
    Calls Try.prog 23 #[.agg (arI .i64 pl), .func (.func 24) #[] #[.pointer (some ⟨bm, 0, none⟩), .pointer (some ⟨bi, 0, none⟩)]] w fun e w' =>
      e = .returned (.tuple #[.agg (arI .i64 (refP pl (nextM m i) 256)), .int .i64 ((seenL pl (nextM m i) 256).length : Int)]) ∧ Below w.heap.size w w' := by
  have hmm := @run_makeMap Try.prog
  have hlH := Lib.hid hl
  have hH := Lib.hid h
  have hmH := Lib.hid hm
  have hiH := Lib.hid hi
  have hsz : Hid ((Try.prog.info? 51).map (·.size) = some (arI .i64 pl).size) := Lib.hid (by rw [arI_size, hl]; exact size51)
  clear hl h hm hi
  have hB1 := Lib.hid (Blk.new w 51 (arI .i64 pl))
  generalize hA : arI .i64 pl = A at *
  have hAH := Lib.hid hA
  clear hA
  go_enter Try.func23, Try.ntmps23
  go_wp2_with (refine wpList_alloc_arr rfl 51 rfl zerosI zero51 ?_)
  generalize hZ : zerosI = Z
  have hZH := Lib.hid hZ
  clear hZ
  go_loopw [12] (fun bb wr => ∃ b : Nat, b ≤ 256 ∧ bb = .int .i64 b ∧
      RefAt w wr (arI .i64 (refP pl (nextM m i) b)) Z (seenL pl (nextM m i) b))
    (fun i _ => 256 - (intOf i).toNat)
  case atStart =>
    refine ⟨0, by omega, rfl, ?_, ?_, ?_, ?_⟩
    · have h := ((Blk.new w 51 A).alloc (.cells Z 51)).alloc (.map #[] 0)
      show Blk _ _ _ (arI .i64 pl)
      rw [hAH.out]; exact h
    · have h := (Blk.new (w.alloc (.cells A 51)) 51 Z).alloc (.map #[] 0)
      rw [World.size_alloc] at h; exact h
    · have h := mapIs_new ((w.alloc (.cells A 51)).alloc (.cells Z 51))
      rw [World.size_alloc, World.size_alloc] at h; exact h
    · exact below_alloc (below_alloc (below_alloc (Below.refl _ _) _) _) _
  case round =>
    obtain ⟨b, hb, rfl, hR⟩ := hrel
    by_cases hlt : b < 256
    · have hc1 : wr.cell? ⟨w.heap.size, b, none⟩ = some (.int .i64 (pl.getD b 0)) := by
        have h := hR.p.cellI b (by rw [refP_len, hlH.out]; exact hlt)
        rwa [refP_ge _ _ b b (Nat.le_refl _)] at h
      generalize hx : pl.getD b 0 = x at hc1
      have hxH := Lib.hid hx
      clear hx
      have hne := World.new_ne wr ⟨w.heap.size, b, none⟩ hc1
      have hlt0 : w.heap.size < wr.heap.size := hR.p.lt
      go_upto_region 5 with (fail)
      go_cut [8] (fun s8 wx => ∃ g : Nat, s8 = .pointer (some ⟨g, 0, none⟩) ∧ w.heap.size + 2 < g ∧ Hid (Blk wx g 61 #[.int .i64 x, .int .i64 (nextM m i b)]) ∧ RefAt w wx (arI .i64 (refP pl (nextM m i) b)) Z (seenL pl (nextM m i) b))
      case first =>
        go_region_held3 (fun w' => w'.cell? ⟨w.heap.size, b, none⟩ = some (.int .i64 x)) (go_keep)
          (first | (go_at_call 24; refine (of1_b i b bm bi hH.out hmH.out hiH.out ?_ _ ?_).mono ?_; (exact (by repeat (first | exact hR.b | apply below_alloc | apply below_drew1))); (rw [IntKind.wrap_u8]; omega); rintro e w1 ⟨rfl, hb1⟩; have hs1 := pw_cell_below hb1 (a := ⟨w.heap.size, b, none⟩) (v := .int .i64 x) (by first | exact hc1 | exact (World.cell?_alloc_lt _ _ _ hlt0).trans hc1); (try (have hz0 := pw_cell_below hb1 (cell_two_new _ _ _ _).1; have hz1 := pw_cell_below hb1 (cell_two_new _ _ _ _).2.1; have hz2 := (hb1.frozen (p := ⟨wr.heap.size, 0, none⟩) (by simp)).trans (cell_two_new _ _ _ _).2.2.1; have hz3 := (hb1.frozen (p := ⟨wr.heap.size, 1, none⟩) (by simp)).trans (cell_two_new _ _ _ _).2.2.2))))
        all_goals (go_wp2_with fail; go_meet)
        · have hml := hR.m.lt
          exact ⟨w1.heap.size, rfl, by have h1 : wr.heap.size ≤ w1.heap.size := hb1.size; omega, Lib.hid (Blk.new w1 61 _), (hR.drew.below hb1).alloc _⟩
        · have hml := hR.m.lt
          have hbk : Blk w1 wr.heap.size 61 #[.int .i64 0, .int .i64 0] := (Blk.new wr.drew 61 _).below hb1 (by simp)
          exact ⟨wr.heap.size, rfl, by omega, Lib.hid ((hbk.set_ 0 _).set_ 1 _), (((hR.drew.alloc _).below hb1).far (p := ⟨wr.heap.size, 0, none⟩) (by simpa using hml) _).far (p := ⟨wr.heap.size, 1, none⟩) (by simpa using hml) _⟩
      case rest =>
        obtain ⟨g, rfl, hg, hG, hR⟩ := hcut
        have hg0 : wc.cell? ⟨g, 0, none⟩ = some (.int .i64 x) := hG.out.cell 0
        have hg1 : wc.cell? ⟨g, 1, none⟩ = some (.int .i64 (nextM m i b)) := hG.out.cell 1
        have hpl : (refP pl (nextM m i) b).length = 256 := by rw [refP_len, hlH.out]
        have hplH := Lib.hid hpl
        have hold := hR.p.cellI b (by rw [hpl]; exact hlt)
        have hfr := hR.p.frozen b
        generalize (refP pl (nextM m i) b).getD b 0 = old at hold
        clear hpl
        by_cases hS : look (x, nextM m i b) (seenL pl (nextM m i) b) 0 = none
        · have hnew : Hid (seenL pl (nextM m i) (b + 1) = seenL pl (nextM m i) b ++ [(x, nextM m i b)]) := by
            unfold Hid; rw [← hxH.out] at hS ⊢; rw [seenL, if_pos hS]
          have hst : Hid (refP pl (nextM m i) (b + 1) = (refP pl (nextM m i) b).set b (((look (x, nextM m i b) (seenL pl (nextM m i) b ++ [(x, nextM m i b)]) 0).getD 0 : Nat) : Int)) := by
            unfold Hid; rw [refP, hnew.out, hxH.out]
          have hlk := lookup_ok (x, nextM m i b) wc (w.heap.size + 1 + 1) _ hR.m
          rw [hS] at hlk
          obtain ⟨w2, hup, hm2, hg2, hs2⟩ := update_new (x, nextM m i b) wc (w.heap.size + 1 + 1) _ hR.m hS
          have hln := len_map wc (w.heap.size + 1 + 1) _ hR.m 3
          have hlk2 := lookup_plain (x, nextM m i b) w2 (w.heap.size + 1 + 1) _ hm2
          have hg02 : w2.cell? ⟨g, 0, none⟩ = some (.int .i64 x) := (World.cell?_of_block (hg2.block g hG.out.lt (by simp; omega))).trans hg0
          have hg12 : w2.cell? ⟨g, 1, none⟩ = some (.int .i64 (nextM m i b)) := (World.cell?_of_block (hg2.block g hG.out.lt (by simp; omega))).trans hg1
          have hpB : Blk w2 w.heap.size 51 _ := (hg2.block w.heap.size hR.p.lt (by simp; omega)).trans hR.p
          have hold2 : w2.cell? ⟨w.heap.size, b, none⟩ = some (.int .i64 old) := (hpB.cell b).trans ((hR.p.cell b).symm.trans hold)
          have hfr2 := hpB.frozen b
          have hpBH := Lib.hid hpB
          have hS' := Lib.hid hS
          have hm2' := Lib.hid hm2
          have hg2' := Lib.hid hg2
          have hs2' := Lib.hid hs2
          clear hS hm2 hg2 hs2 hpB
          simp only [vkey] at hlk hup hlk2
          generalize (((look (x, nextM m i b) (seenL pl (nextM m i) b ++ [(x, nextM m i b)]) 0).getD 0 : Nat) : Int) = idx at hst hlk2
          generalize hSS : seenL pl (nextM m i) b = SS at *
          go_wp2_with fail
          go_roundw
          case rel =>
            refine ⟨b + 1, by omega, by go_num, ?_, ?_, ?_, ?_⟩
            · rw [hst.out]; exact hpBH.out.setI b idx
            · exact Blk.far ((hg2'.out.block _ hR.r.lt (by simp)).trans hR.r) (by simp) _
            · rw [hnew.out]; exact hm2'.out.keep (Below.heap_setCell _ _ _ _ (by simp; omega))
            · exact (hR.b.grown hg2'.out hR.b.size (fun k hk => by cases hk; omega)).setCell (by simp) _
          case measure => simp [intOf]; omega
        · obtain ⟨n, hn⟩ := Option.ne_none_iff_exists'.1 hS
          have hnew : Hid (seenL pl (nextM m i) (b + 1) = seenL pl (nextM m i) b) := by
            unfold Hid; rw [← hxH.out] at hS; rw [seenL, if_neg hS]
          have hst : Hid (refP pl (nextM m i) (b + 1) = (refP pl (nextM m i) b).set b (n : Int)) := by
            unfold Hid; rw [refP, hnew.out, hxH.out, hn]; rfl
          have hlk := lookup_ok (x, nextM m i b) wc (w.heap.size + 1 + 1) _ hR.m
          have hlk2 := lookup_plain (x, nextM m i b) wc (w.heap.size + 1 + 1) _ hR.m
          rw [hn] at hlk hlk2
          clear hS hn
          simp only [vkey, Option.getD_some, Option.isSome_some] at hlk hlk2
          go_wp2_with fail
          go_roundw
          case rel =>
            refine ⟨b + 1, by omega, by go_num, ?_, ?_, ?_, ?_⟩
            · rw [hst.out]; exact hR.p.setI b n
            · exact hR.r.far (by simp) _
            · rw [hnew.out]; exact hR.m.keep (Below.heap_setCell _ _ _ _ (by simp))
            · exact hR.b.setCell (by simp) _
          case measure => simp [intOf]; omega
    · obtain rfl : b = 256 := by omega
      have hln := len_map wr (w.heap.size + 1 + 1) _ hR.m 3
      go_wp2_with (first
        | (refine wpList_load_row rfl 51 (.tmp 2) rfl w.heap.size rfl 51 _ (0, 0) _ hR.p Try.underlying51 rfl ?_ ?_; (rw [arI_size, refP_len, hlH.out]; exact size51))
        | (refine wpList_store_row rfl 51 (.tmp 4) (.tmp 41) rfl (w.heap.size + 1) _ rfl rfl 51 Z hR.r ?_ ?_ (arI_one _ _) ?_; (rw [arI_size, refP_len, hlH.out]; exact size51); (rw [arI_size, refP_len, hlH.out, ← hZH.out]; rfl)))
      have hsz2 : (Try.prog.info? 51).map (·.size) = some (arI .i64 (refP pl (nextM m i) 256)).size := by rw [arI_size, refP_len, hlH.out]; exact size51
      refine bodyPost_ret (results_row2 rfl _ _ (w.heap.size + 1) 51 (arI .i64 (refP pl (nextM m i) 256)) _ rfl (hR.r.setRow_ _) Try.underlying51 rfl hsz2) rfl ⟨rfl, ?_⟩
      exact below_setRow_ hR.b (by omega) _
end Go.Proofs.Ytbhdpamepmkaiaa
