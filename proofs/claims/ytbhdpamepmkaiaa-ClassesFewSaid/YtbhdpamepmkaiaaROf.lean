/- homographref10.Of and homographref10.Lows: walks. Own text. -/
import Derived.Test.YtbhdpamepmkaiaaNum
import Derived.Test.YtbhdpamepmkaiaaLows
namespace Go.Proofs.Ytbhdpamepmkaiaa
open Go.RowKit Go.Proofs.Ytbhdpamepmkaiaa.P Go.Proofs.Ytbhdpamepmkaiaa.Plain Go.Proofs.YtbhdpamepmkaiaaW.PrintWords Go.Proofs.YtbhdpamepmkaiaaW.PrintLast Go.Proofs.YtbhdpamepmkaiaaW.PrintMore
attribute [local go_sem] max2_int
set_option linter.unusedVariables false

set_option maxRecDepth 20000 in
set_option maxHeartbeats 400000 in
theorem ref_Lows_calls (l : List Int) (hl : l.length = 256) (hr : ∀ x ∈ l, 0 ≤ x ∧ x ≤ 255) (w : World) :
    Calls Try.prog 11 #[.agg (arI .u8 l)] w fun e w' => ∃ v0, e = .returned v0 ∧ (Kd.int .u8).R 5 w' w.heap.size (fun _ => True) v0 (lowsL l) ∧ Below w.heap.size w w' := by
  have hB1 := Lib.hid (Blk.new w 24 (arI .u8 l))
  have hlH := Lib.hid hl
  have hrH := Lib.hid hr
  clear hl hr
  generalize hA : arI .u8 l = A at *
  have hA' := Lib.hid hA
  clear hA
  go_enter Try.func11, Try.ntmps11
  go_wp2
  go_loop [3, 4] (fun m i => ∃ k : Nat, k ≤ 256 ∧ i = .int .i64 k ∧ m = .int .i64 (mostL l k)) (fun _ i => 256 - (intOf i).toNat)
  case atStart => exact ⟨0, by omega, rfl, rfl⟩
  case round =>
    obtain ⟨k, hk, rfl, rfl⟩ := hrel
    have hm := mostL_bd l hrH.out k
    by_cases hlt : k < 256
    · have hc1 : (w.alloc (Obj.cells A 24)).cell? ⟨w.heap.size, k, none⟩ = some (.int .u8 (l.getD k 0)) := by
        have h := hB1.out; rw [← hA'.out] at h ⊢; exact h.cellI k (by rw [hlH.out]; exact hlt)
      have hx : 0 ≤ l.getD k 0 ∧ l.getD k 0 ≤ 255 := hrH.out _ (by rw [List.getD_eq_getElem?_getD, List.getElem?_eq_getElem (by rw [hlH.out]; exact hlt)]; exact List.getElem_mem _)
      have hs := Lib.hid (mostL_succ l k (by rw [hlH.out]; exact hlt))
      generalize hx0 : l.getD k 0 = x at *
      clear hx0
      generalize hwv : w.alloc (Obj.cells A 24) = W at *
      clear hwv
      go_wp2
      all_goals
        go_round
        case rel => exact ⟨k + 1, by omega, by go_num, by rw [hs.out]⟩
        case measure => simp [intOf]; omega
    · obtain rfl : k = 256 := by omega
      obtain ⟨n, hn⟩ : ∃ n : Nat, mostL l 256 + 1 = (n : Int) := ⟨(mostL l 256 + 1).toNat, by omega⟩
      have hnH := Lib.hid hn
      have hn1 : n ≤ 256 := by omega
      clear hn
      go_wp2_with (refine wpList_make_exact rfl (.tmp 18) (.tmp 18) 28 rfl 5 (.int .u8 0) 1 Try.underlying28 info5 n _ rfl rfl (by exact hnH.out) (by omega) (by omega) ?_)
      have hb0 := Lib.hid (Blk.new (w.alloc (Obj.cells A 24)) 5 (madeCells #[Value.int IntKind.u8 0] n))
      have hbA := Lib.hid ((hB1.out).alloc (Obj.cells (madeCells #[Value.int IntKind.u8 0] n) 5))
      have hbel := Lib.hid (((Below.refl w.heap.size w).alloc (Nat.le_refl _) (Obj.cells A 24)).alloc (by simp) (Obj.cells (madeCells #[Value.int IntKind.u8 0] n) 5))
      clear hB1
      go_loopw [6] (fun i wr => ∃ z : Int, -1 ≤ z ∧ z ≤ 255 ∧ i = .int .i64 z ∧ Hid (Blk wr w.heap.size 24 A) ∧ Hid (Blk wr (w.heap.size + 1) 5 (arI .u8 (lowsD l (z + 1).toNat))) ∧ Hid (Below w.heap.size w wr))
        (fun i _ => (intOf i + 1).toNat)
      case atStart =>
        refine ⟨255, by omega, by omega, rfl, hbA, ?_, hbel⟩
        have h0 := hb0.out
        rw [World.size_alloc] at h0
        have : lowsD l (255 + 1 : Int).toNat = List.replicate n 0 := by
          show lowsD l 256 = _
          have e : (mostL l 256 + 1).toNat = n := by rw [hnH.out]; simp
          simp [lowsD, e]
        rw [this, ← arI_made]; exact h0
      case round =>
        obtain ⟨z, hz1, hz2, rfl, hbA, hbS, hbel⟩ := hrel
        by_cases hz : 0 ≤ z
        · obtain ⟨b, rfl⟩ := Int.eq_ofNat_of_zero_le hz
          have hbl : b < l.length := by rw [hlH.out]; omega
          have hst := Lib.hid (lowsD_step l b (by omega))
          have hx := hrH.out (l.getD b 0) (by rw [List.getD_eq_getElem?_getD, List.getElem?_eq_getElem hbl]; exact List.getElem_mem _)
          have hxm := mostL_ge l 256 b (by omega) hbl
          have hc1 : wr.cell? ⟨w.heap.size, b, none⟩ = some (.int .u8 (l.getD b 0)) := by
            have h := hbA.out; rw [← hA'.out] at h; exact h.cellI b hbl
          have hlen := lowsD_len l (b + 1)
          have hxn : (l.getD b 0).toNat < n := by have := hnH.out; omega
          obtain ⟨x, hxx⟩ := Int.eq_ofNat_of_zero_le hx.1
          rw [hxx] at hc1 hxn hxm hx hst
          have hxH := Lib.hid hxx
          clear hxx
          simp only [Int.toNat_natCast] at hxn
          have e1 : ((b : Int) + 1).toNat = b + 1 := by omega
          rw [e1] at hbS
          have hlen' : (lowsD l (b + 1)).length = n := by rw [hlen, hnH.out]; simp
          have hc2 : wr.cell? ⟨w.heap.size + 1, x, none⟩ = some (.int .u8 ((lowsD l (b + 1)).getD x 0)) := (hbS.out).cellI x (by rw [hlen']; exact hxn)
          have hf2 : wr.frozen? ⟨w.heap.size + 1, x, none⟩ = false := (hbS.out).frozen x
          have hlenH := Lib.hid hlen'
          clear hlen hlen' e1
          generalize (lowsD l (b + 1)).getD x 0 = old at hc2
          go_wp2
          go_roundw
          case rel =>
            refine ⟨(b : Int) - 1, by omega, by omega, by go_num, ?_, ?_, ?_⟩
            · exact (hbA.out).far (p := ⟨w.heap.size + 1, x, none⟩) (by simp) _
            · have h := (hbS.out).setI x (b : Int)
              have e1 : ((b : Int) - 1 + 1).toNat = b := by omega
              rw [e1, hst.out]; exact h
            · exact (hbel.out).setCell (p := ⟨w.heap.size + 1, x, none⟩) (by simp) _
          case measure => simp [intOf]
        · go_wp2
          go_ret
          have hz' : z = -1 := by omega
          subst hz'
          refine ⟨_, rfl, ?_, hbel.out⟩
          have hlen : (lowsD l 0).length = n := by rw [lowsD_len, hnH.out]; simp
          have h := Blk.to_R (hbS.out) (base := w.heap.size) (ok := fun _ => True) (by simp) (by simp only [maxLen]; have : (lowsD l (-1 + 1 : Int).toNat).length = n := hlen; omega) trivial
          have e0 : (lowsD l (-1 + 1 : Int).toNat).length = n := hlen
          rw [e0] at h
          exact h
end Go.Proofs.Ytbhdpamepmkaiaa
