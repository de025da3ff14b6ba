/- homographref07.Arcs: its walk. Own text. -/
import Derived.Test.YtbhdpamepmkaiaaArcC
import Derived.Deep.QuietTactic
import Derived.BigQuiet
namespace Go.Proofs.Ytbhdpamepmkaiaa
open Go.RowKit Go.Shelf Go.Proofs.Ytbhdpamepmkaiaa.P Go.Proofs.YtbhdpamepmkaiaaW.PrintWords
set_option linter.unusedVariables false

theorem rowA_length (l : List S50) : (rowA l).length = l.length * 3 := by
  induction l with
  | nil => rfl
  | cons a l ih => rw [show rowA (a :: l) = cellsA a ++ rowA l from by simp [rowA], List.length_append, ih, List.length_cons]; simp [cellsA]; omega
/-- The row of arcs, its base and what lies ahead. -/
def RArc (B : Nat) (Wb W : World) (v : Value) (L : List S50) : Prop := W.ownsRow B 50 3 v L.length (rowA L) ∧ Below B Wb W
theorem RArc.last {B : Nat} {Wb W : World} {v : Value} {P : List S50} {a : S50} (h : RArc B Wb W v (P ++ [a])) :
    ∃ g cap, v = .slice (some ⟨g, 0, none⟩) (P.length + 1) cap ∧ W.cell? ⟨g, P.length * 3 + 1, none⟩ = some (.int .u8 a.f1) ∧ W.cell? ⟨g, P.length * 3 + 2, none⟩ = some (.int .i64 a.f2) ∧ W.frozen? ⟨g, P.length * 3 + 1, none⟩ = false ∧
      ∀ x, RArc B Wb (W.setCell ⟨g, P.length * 3 + 1, none⟩ (.int .u8 x)) (.slice (some ⟨g, 0, none⟩) (P.length + 1) cap) (P ++ [⟨a.f0, x, a.f2⟩]) := by
  obtain ⟨ho, hb⟩ := h
  rw [List.length_append, List.length_singleton] at ho
  obtain ⟨g, cap, rfl, hg, _⟩ := ho.form (by omega)
  have hl := rowA_length P
  have hget : ∀ j, j < 3 → (rowA (P ++ [a]))[P.length * 3 + j]? = (cellsA a)[j]? := fun j hj => by
    rw [rowA_snoc, List.getElem?_append_right (by omega)]; congr 1; omega
  refine ⟨g, cap, rfl, ?_, ?_, ho.frozenAt _, fun x => ⟨?_, ?_⟩⟩
  · rw [ho.cellAt _ (by omega), hget 1 (by omega)]; rfl
  · rw [ho.cellAt _ (by omega), hget 2 (by omega)]; rfl
  · have h2 := (ho.stored (P.length * 3 + 1) (.int .u8 x)).1
    rw [List.length_append, List.length_singleton]
    have : (rowA (P ++ [a])).set (P.length * 3 + 1) (.int .u8 x) = rowA (P ++ [⟨a.f0, x, a.f2⟩]) := by
      rw [rowA_snoc, rowA_snoc, List.set_append_right _ _ (by omega)]
      congr 1
      rw [hl, Nat.add_sub_cancel_left]; rfl
    rw [this] at h2; exact h2
  · exact hb.grown (ho.stored (P.length * 3 + 1) (.int .u8 x)).2 (by have h1 := own_base ho g rfl; have h2 := own_lt ho g rfl; omega) (own_base ho)
theorem RArc.drew {B : Nat} {Wb W : World} {v : Value} {L : List S50} (h : RArc B Wb W v L) (q : Nat) : RArc B Wb (W.drewN q) v L := ⟨h.1, ⟨h.2.os, h.2.tape, h.2.output, h.2.size, h.2.block⟩⟩
theorem rstep_skip (tv : List Int) (b : Nat) (h : tv.getD b 0 < 0) : rarcs tv (b + 1) = rarcs tv b := by rw [rarcs, rstep, if_pos h]
theorem rstep_nil (tv : List Int) (b : Nat) (h : ¬ tv.getD b 0 < 0) (hn : rarcs tv b = []) : rarcs tv (b + 1) = [] ++ [⟨(b : Int), (b : Int), tv.getD b 0⟩] := by rw [rarcs, rstep, if_neg h, hn]; rfl
theorem rstep_on (tv : List Int) (b : Nat) (h : ¬ tv.getD b 0 < 0) (P : List S50) (a : S50) (hn : rarcs tv b = P ++ [a]) (h1 : a.f1 = (b : Int) - 1) (h2 : a.f2 = tv.getD b 0) : rarcs tv (b + 1) = P ++ [⟨a.f0, (b : Int), a.f2⟩] := by
  rw [rarcs, rstep, if_neg h, hn, List.getLast?_concat]; simp only; rw [if_pos ⟨h1, h2⟩, List.dropLast_concat, h2]
theorem rstep_new (tv : List Int) (b : Nat) (h : ¬ tv.getD b 0 < 0) (P : List S50) (a : S50) (hn : rarcs tv b = P ++ [a]) (h1 : ¬ (a.f1 = (b : Int) - 1 ∧ a.f2 = tv.getD b 0)) : rarcs tv (b + 1) = (P ++ [a]) ++ [⟨(b : Int), (b : Int), tv.getD b 0⟩] := by
  rw [rarcs, rstep, if_neg h, hn, List.getLast?_concat]; simp only; rw [if_neg h1]

set_option maxRecDepth 20000 in
set_option maxHeartbeats 1000000 in
theorem rarcs_c (tv : List Int) (htv : tv.length = 256) (w : World) :
    Calls Try.prog 30 #[.agg (arI .i64 tv)] w fun e w' => ∃ v, e = .returned v ∧ k50.R 50 w' w.heap.size (fun _ => True) v (rarcs tv 256) ∧ Below w.heap.size w w' := by
  have hbel := Lib.hid (below_alloc (Below.refl w.heap.size w) (.cells (arI .i64 tv) 51))
  have hBk := Lib.hid (Blk.new w 51 (arI .i64 tv))
  have hcl := Lib.hid (fun (W : World) (h : Below (w.heap.size + 1) (w.alloc (.cells (arI .i64 tv) 51)) W) (b : Nat) (hb : b < 256) => ((Blk.new w 51 (arI .i64 tv)).below h (by omega)).cellI b (by rw [htv]; exact hb))
  have hsz : (arI .i64 tv).size = 256 := by rw [arI_size, htv]
  generalize hA : arI .i64 tv = C at *
  clear hA
  go_enter Try.func30, Try.ntmps30
  go_wp2_with fail
  have hs1 : (w.alloc (.cells C 51)).heap.size = w.heap.size + 1 := by simp
  generalize hW1 : w.alloc (.cells C 51) = W1 at *
  clear hW1
  have hs1H := Lib.hid hs1
  clear hs1
  go_loopw [3, 4] (fun o bb wr => ∃ (b n : Nat) (A : Option Addr) (cp : Nat), b ≤ 256 ∧ bb = .int .i64 b ∧ n ≤ b ∧ o = .slice A n cp ∧ Hid ((rarcs tv b).length = n) ∧ Hid (RArc (w.heap.size + 1) W1 wr (.slice A n cp) (rarcs tv b))) (fun _ bb _ => 256 - (intOf bb).toNat)
  case atStart => exact ⟨0, 0, none, 0, by omega, rfl, by omega, rfl, rfl, World.ownsRow_nil _ _ _ _, by rw [← hs1H.out]; exact Below.refl _ _⟩
  case round =>
    obtain ⟨b, n, A, cp, hb, rfl, hnb, rfl, hnL, hR⟩ := hrel
    have hszr := hR.out.2.size
    rw [hs1H.out] at hszr
    by_cases hlt : b < 256
    · have hdb : decide ((b : Int) < 256) = true := decide_eq_true (by omega)
      have hc0 := hcl.out _ hR.out.2 b hlt
      have hw1 : IntKind.i64.wrap ((b : Int) - 1) = (b : Int) - 1 := by rw [IntKind.wrap_i64]; omega
      have hw2 : IntKind.u8.wrap (b : Int) = (b : Int) := by rw [IntKind.wrap_u8]; omega
      by_cases hx : tv.getD b 0 < 0
      · have hd : decide (tv.getD b 0 < 0) = true := decide_eq_true hx
        have hst := Lib.hid (rstep_skip tv b hx)
        generalize tv.getD b 0 = x at *
        go_wp2
        go_roundw
        case rel => exact ⟨b + 1, n, A, cp, by omega, by go_num, by omega, rfl, by rw [hst.out]; exact hnL, by rw [hst.out]; exact hR⟩
        case measure => simp [intOf]; omega
      · have hd : decide (tv.getD b 0 < 0) = false := decide_eq_false hx
        rcases List.eq_nil_or_concat (rarcs tv b) with hL | ⟨P, a, hL⟩
        · have hst := Lib.hid (rstep_nil tv b hx hL)
          rw [hL] at hR
          have hn0 := hnL.out
          rw [hL] at hn0
          simp only [List.length_nil] at hn0
          subst hn0
          clear hL hnL
          generalize tv.getD b 0 = x at *
          have hdn : decide ((0 : Int) < ((0 : Nat) : Int)) = false := by decide
          go_wp2_with fail
          go_quiet (fail)
          rename_i nq
          have hRn := Lib.hid (hR.out.drew nq)
          have hcn : (wr.drewN nq).cell? ⟨w.heap.size, b, none⟩ = some (.int .i64 x) := hc0
          have hszn : w.heap.size + 1 ≤ (wr.drewN nq).heap.size := hszr
          clear hR hc0
          generalize wr.drewN nq = W5 at *
          go_wp2_with (first
            | ((with_reducible refine gate_builtin (b := .append) (xs := #[.tmp 49, .tmp 58]) rfl ?_); at_builtin; refine print_append_cells (w0 := W1) (w.heap.size + 1) rfl (.tmp 49) (.tmp 58) 46 50 _ 3 16 rfl Try.underlying46 info50' rfl (by decide) (by decide) (.slice A 0 cp) 0 (rowA ([] : List S50)) [.int .u8 (b : Int), .int .u8 (b : Int), .int .i64 x] rfl rfl rfl ?a1 ?aO ?aB ?aS (by omega) ?_; (case a1 => simp [Value.oneCell']); (case aO => exact hRn.out.1); (case aB => exact hRn.out.2); (case aS => exact hszn); intro v1 w4 ho hb4 hg hat; obtain ⟨B1, cp1, hv1⟩ := own_slice ho; subst hv1; have hoH := Lib.hid ho; have hb4H := Lib.hid hb4; clear ho hb4 hg hat))
          go_roundw
          case rel =>
            refine ⟨b + 1, 0 + 1, B1, cp1, by omega, by go_num, by omega, rfl, ?_, ?_, hb4H.out⟩
            · unfold Hid; rw [hst.out]; simp
            · have h2 := hoH.out
              rw [hst.out, rowA_snoc, List.length_append]
              skip
              exact h2
          case measure => simp [intOf]; omega
        · rw [List.concat_eq_append] at hL
          have hn1 := hnL.out
          rw [hL, List.length_append, List.length_singleton] at hn1
          generalize hpl : P.length = p at *
          subst hn1
          clear hnL
          rw [hL] at hR
          obtain ⟨g, cap, hv, hca, hcb, hfr, hset⟩ := hR.out.last
          rw [hpl] at hv hca hcb hfr hset
          injection hv with hv1 hv2 hv3
          subst hv1 hv3
          have hsetH := Lib.hid hset
          clear hset
          have hdn : decide ((0 : Int) < ((p + 1 : Nat) : Int)) = true := decide_eq_true (by omega)
          have hi1 : IntKind.i64.wrap (((p + 1 : Nat) : Int) - 1) = (p : Int) := by rw [IntKind.wrap_i64]; omega
          by_cases h1 : a.f1 = (b : Int) - 1
          · have hi2 : IntKind.i64.wrap a.f1 = a.f1 := by rw [h1]; exact hw1
            have hq1 : (a.f1 == (b : Int) - 1) = true := by simpa using h1
            by_cases h2 : a.f2 = tv.getD b 0
            · have hst := Lib.hid (rstep_on tv b hx P a hL h1 h2)
              have hq2 : (a.f2 == tv.getD b 0) = true := by simpa using h2
              generalize tv.getD b 0 = x at *
              clear hL
              go_wp2_with fail
              go_quiet (fail)
              rename_i nq
              have hRn := Lib.hid (hR.out.drew nq)
              have hfrn : (wr.drewN nq).frozen? ⟨g, p * 3 + 1, none⟩ = false := hfr
              have hcan : (wr.drewN nq).cell? ⟨g, p * 3 + 1, none⟩ = some (.int .u8 a.f1) := hca
              clear hR hc0 hsetH hca hcb hfr
              generalize wr.drewN nq = W5 at *
              obtain ⟨g', cap', hv', _, _, _, hset'⟩ := hRn.out.last
              rw [hpl] at hv' hset'
              injection hv' with e1 e2 e3
              injection e1 with e1
              injection e1 with e1 _ _
              subst e1 e3
              have hset2 := Lib.hid (hset' (b : Int))
              clear hset'
              go_wp2
              go_roundw
              case rel =>
                refine ⟨b + 1, p + 1, some ⟨g, 0, none⟩, cp, by omega, by go_num, by omega, rfl, ?_, ?_⟩
                · unfold Hid; rw [hst.out]; simp [hpl]
                · rw [hst.out]; exact hset2
              case measure => simp [intOf]; omega
            · have hst := Lib.hid (rstep_new tv b hx P a hL (fun h => h2 h.2))
              have hq2 : (a.f2 == tv.getD b 0) = false := by simpa using h2
              generalize tv.getD b 0 = x at *
              clear hL
              go_wp2_with fail
              go_quiet (fail)
              rename_i nq
              have hRn := Lib.hid (hR.out.drew nq)
              have hcn : (wr.drewN nq).cell? ⟨w.heap.size, b, none⟩ = some (.int .i64 x) := hc0
              have hszn : w.heap.size + 1 ≤ (wr.drewN nq).heap.size := hszr
              clear hR hc0 hsetH hca hcb hfr hi1 hi2 hq1 hq2 hdn
              generalize wr.drewN nq = W5 at *
              go_wp2_with (first
                | ((with_reducible refine gate_builtin (b := .append) (xs := #[.tmp 49, .tmp 58]) rfl ?_); at_builtin; refine print_append_cells (w0 := W1) (w.heap.size + 1) rfl (.tmp 49) (.tmp 58) 46 50 _ 3 16 rfl Try.underlying46 info50' rfl (by decide) (by decide) (.slice (some ⟨g, 0, none⟩) (p + 1) cp) (p + 1) (rowA (P ++ [a])) [.int .u8 (b : Int), .int .u8 (b : Int), .int .i64 x] rfl rfl rfl ?a1 ?aO ?aB ?aS (by omega) ?_; (case a1 => simp [Value.oneCell']); (case aO => have hh := hRn.out.1; rw [List.length_append, List.length_singleton, hpl] at hh; exact hh); (case aB => exact hRn.out.2); (case aS => exact hszn); intro v1 w4 ho hb4 hg hat; obtain ⟨B1, cp1, hv1⟩ := own_slice ho; subst hv1; have hoH := Lib.hid ho; have hb4H := Lib.hid hb4; clear ho hb4 hg hat))
              go_roundw
              case rel =>
                refine ⟨b + 1, p + 1 + 1, B1, cp1, by omega, by go_num, by omega, rfl, ?_, ?_, hb4H.out⟩
                · unfold Hid; rw [hst.out]; simp [hpl]
                · have h2 := hoH.out
                  rw [hst.out, rowA_snoc, show ((P ++ [a]) ++ [(⟨(b : Int), (b : Int), x⟩ : S50)]).length = p + 1 + 1 from by simp [hpl]]
                  exact h2
              case measure => simp [intOf]; omega
          · have hst := Lib.hid (rstep_new tv b hx P a hL (fun h => h1 h.1))
            have hrg := Lib.hid (rarcs_last tv b a (by rw [hL, List.getLast?_concat]))
            have hi2 : IntKind.i64.wrap a.f1 = a.f1 := by
              obtain ⟨j, hj1, hj2, _⟩ := hrg.out
              rw [IntKind.wrap_i64]; omega
            clear hrg
            have hq1 : (a.f1 == (b : Int) - 1) = false := by simpa using h1
            generalize tv.getD b 0 = x at *
            clear hL
            go_wp2_with fail
            go_quiet (fail)
            rename_i nq
            have hRn := Lib.hid (hR.out.drew nq)
            have hcn : (wr.drewN nq).cell? ⟨w.heap.size, b, none⟩ = some (.int .i64 x) := hc0
            have hszn : w.heap.size + 1 ≤ (wr.drewN nq).heap.size := hszr
            clear hR hc0 hsetH hca hcb hfr hi1 hi2 hq1 hdn
            generalize wr.drewN nq = W5 at *
            go_wp2_with (first
              | ((with_reducible refine gate_builtin (b := .append) (xs := #[.tmp 49, .tmp 58]) rfl ?_); at_builtin; refine print_append_cells (w0 := W1) (w.heap.size + 1) rfl (.tmp 49) (.tmp 58) 46 50 _ 3 16 rfl Try.underlying46 info50' rfl (by decide) (by decide) (.slice (some ⟨g, 0, none⟩) (p + 1) cp) (p + 1) (rowA (P ++ [a])) [.int .u8 (b : Int), .int .u8 (b : Int), .int .i64 x] rfl rfl rfl ?a1 ?aO ?aB ?aS (by omega) ?_; (case a1 => simp [Value.oneCell']); (case aO => have hh := hRn.out.1; rw [List.length_append, List.length_singleton, hpl] at hh; exact hh); (case aB => exact hRn.out.2); (case aS => exact hszn); intro v1 w4 ho hb4 hg hat; obtain ⟨B1, cp1, hv1⟩ := own_slice ho; subst hv1; have hoH := Lib.hid ho; have hb4H := Lib.hid hb4; clear ho hb4 hg hat))
            go_roundw
            case rel =>
              refine ⟨b + 1, p + 1 + 1, B1, cp1, by omega, by go_num, by omega, rfl, ?_, ?_, hb4H.out⟩
              · unfold Hid; rw [hst.out]; simp [hpl]
              · have h2 := hoH.out
                rw [hst.out, rowA_snoc, show ((P ++ [a]) ++ [(⟨(b : Int), (b : Int), x⟩ : S50)]).length = p + 1 + 1 from by simp [hpl]]
                exact h2
            case measure => simp [intOf]; omega
    · obtain rfl : b = 256 := by omega
      go_wp2
      go_ret
      refine ⟨_, rfl, Kd.R_lower (rowA_R (by rw [hnL.out]; have h := hR.out.1; rw [hnL.out] at h; exact h)) (by omega), ?_⟩
      exact below_then hbel.out (by rw [hs1H.out]; omega) (by rw [hs1H.out]; exact hR.out.2)
end Go.Proofs.Ytbhdpamepmkaiaa
