/- Range, Lit: walks. Own text. -/
import Derived.Test.YtimhiacjoplkeaaAgn
namespace Go.Proofs.Ytimhiacjoplkeaa
open Go.RowKit Go.Proofs.Ytimhiacjoplkeaa.P Go.Proofs.YtimhiacjoplkeaaW.PrintWords Go.Proofs.YtimhiacjoplkeaaW.PrintLast
set_option linter.unusedVariables false
set_option linter.unusedSimpArgs false
/-- Element k, with m bytes from a on. -/
def rgk (k : Nat) (a : Nat) : Nat → Int
  | 0 => 0
  | m + 1 => wth k (rgk k a m) (a + m)
theorem set4 {w : World} {g : Nat} {t : TypeId} {a0 a1 a2 a3 : Value} (h : Blk w g t #[a0, a1, a2, a3]) (b0 b1 b2 b3 : Value) : Blk ((((w.setCell ⟨g, 0, none⟩ b0).setCell ⟨g, 1, none⟩ b1).setCell ⟨g, 2, none⟩ b2).setCell ⟨g, 3, none⟩ b3) g t #[b0, b1, b2, b3] := by
  have := (((h.set_ 0 b0).set_ 1 b1).set_ 2 b2).set_ 3 b3
  simpa using this
theorem far4 {w : World} {g k : Nat} {t : TypeId} {cs : Array Value} (h : Blk w k t cs) (hk : k ≠ g) (b0 b1 b2 b3 : Value) : Blk ((((w.setCell ⟨g, 0, none⟩ b0).setCell ⟨g, 1, none⟩ b1).setCell ⟨g, 2, none⟩ b2).setCell ⟨g, 3, none⟩ b3) k t cs :=
  Blk.far (p := ⟨g, 3, none⟩) (Blk.far (p := ⟨g, 2, none⟩) (Blk.far (p := ⟨g, 1, none⟩) (Blk.far (p := ⟨g, 0, none⟩) h hk _) hk _) hk _) hk _
theorem below4 {B g : Nat} {w W : World} (h : Below B w W) (hg : B ≤ g) (b0 b1 b2 b3 : Value) : Below B w ((((W.setCell ⟨g, 0, none⟩ b0).setCell ⟨g, 1, none⟩ b1).setCell ⟨g, 2, none⟩ b2).setCell ⟨g, 3, none⟩ b3) :=
  (((h.setCell (p := ⟨g, 0, none⟩) hg _).setCell (p := ⟨g, 1, none⟩) hg _).setCell (p := ⟨g, 2, none⟩) hg _).setCell (p := ⟨g, 3, none⟩) hg _
set_option maxRecDepth 20000 in
set_option maxHeartbeats 1000000 in
theorem range_c (a b : Nat) (hab : a ≤ b) (hb : b < 256) (w : World) :
    Calls Try.prog 25 #[.int .u8 (a : Int), .int .u8 (b : Int)] w fun e w' => e = .returned (setV (rgk 0 a (b + 1 - a)) (rgk 1 a (b + 1 - a)) (rgk 2 a (b + 1 - a)) (rgk 3 a (b + 1 - a))) ∧ Below w.heap.size w w' := by
  have hwi := Lib.hid (fun (s0 s1 s2 s3 : Int) (b : Nat) (hb : b < 256) w => with_c s0 s1 s2 s3 b hb w)
  go_enter Try.func25, Try.ntmps25
  go_wp2
  have hR0 := Lib.hid (show Blk ((w.alloc (.cells #[.int .u64 0, .int .u64 0, .int .u64 0, .int .u64 0] 25)).alloc (.cells #[.int .u64 0, .int .u64 0, .int .u64 0, .int .u64 0] 25)) w.heap.size 25 #[.int .u64 0, .int .u64 0, .int .u64 0, .int .u64 0] from (Blk.new w 25 _).alloc _)
  have hS0 := Lib.hid (show Blk ((w.alloc (.cells #[.int .u64 0, .int .u64 0, .int .u64 0, .int .u64 0] 25)).alloc (.cells #[.int .u64 0, .int .u64 0, .int .u64 0, .int .u64 0] 25)) (w.heap.size + 1) 25 #[.int .u64 0, .int .u64 0, .int .u64 0, .int .u64 0] from by have h := Blk.new (w.alloc (.cells #[.int .u64 0, .int .u64 0, .int .u64 0, .int .u64 0] 25)) 25 #[.int .u64 0, .int .u64 0, .int .u64 0, .int .u64 0]; rwa [World.size_alloc] at h)
  have hB0 := Lib.hid (below_alloc (below_alloc (Below.refl w.heap.size w) (.cells #[.int .u64 0, .int .u64 0, .int .u64 0, .int .u64 0] 25)) (.cells #[.int .u64 0, .int .u64 0, .int .u64 0, .int .u64 0] 25))
  generalize (w.alloc (.cells #[.int .u64 0, .int .u64 0, .int .u64 0, .int .u64 0] 25)).alloc (.cells #[.int .u64 0, .int .u64 0, .int .u64 0, .int .u64 0] 25) = W0 at *
  go_loopw [6] (fun ii wr => ∃ m : Nat, m ≤ b + 1 - a ∧ ii = .int .i64 ((a + m : Nat) : Int) ∧ Hid (Blk wr w.heap.size 25 #[.int .u64 0, .int .u64 0, .int .u64 0, .int .u64 0]) ∧ Hid (Blk wr (w.heap.size + 1) 25 #[.int .u64 (rgk 0 a m), .int .u64 (rgk 1 a m), .int .u64 (rgk 2 a m), .int .u64 (rgk 3 a m)]) ∧ Hid (Below w.heap.size w wr)) (fun ii _ => 300 - (intOf ii).toNat)
  case atStart => exact ⟨0, by omega, by simp, hR0, hS0, hB0⟩
  case round =>
    clear hR0 hS0 hB0
    obtain ⟨m, hm, rfl, hR, hS, hB⟩ := hrel
    by_cases hlt : m < b + 1 - a
    · have hd : decide (((a + m : Nat) : Int) ≤ (b : Int)) = true := decide_eq_true (by omega)
      have hw8 : IntKind.u8.wrap ((a + m : Nat) : Int) = ((a + m : Nat) : Int) := by rw [IntKind.wrap_u8]; omega
      have hbm : a + m < 256 := by omega
      have hcall := Lib.hid (hwi.out (rgk 0 a m) (rgk 1 a m) (rgk 2 a m) (rgk 3 a m) (a + m) hbm)
      obtain ⟨z, hz⟩ : ∃ z, z = a + m := ⟨_, rfl⟩
      rw [← hz] at hd hw8 hcall ⊢
      have hzb : z ≤ b := by omega
      have hzd : decide (z ≤ b) = true := decide_eq_true hzb
      have hzH := Lib.hid hz
      clear hz
      have d0 := hS.out.cell 0
      have d1 := hS.out.cell 1
      have d2 := hS.out.cell 2
      have d3 := hS.out.cell 3
      simp only [List.getElem?_toArray, List.getElem?_cons_zero, List.getElem?_cons_succ] at d0 d1 d2 d3
      go_wp2_with (go_at_call 24; refine (hcall.out _).mono ?_; rintro e w2 ⟨rfl, hB2⟩; have hS2 := Lib.hid (hS.out.below hB2 hS.out.lt); have hR2 := Lib.hid (hR.out.below hB2 hR.out.lt); have hB2H := Lib.hid (below_then hB.out hB.out.size hB2); have e0 := hS2.out.cell 0; have e1 := hS2.out.cell 1; have e2 := hS2.out.cell 2; have e3 := hS2.out.cell 3; have f0 := hS2.out.frozen 0; have f1 := hS2.out.frozen 1; have f2 := hS2.out.frozen 2; have f3 := hS2.out.frozen 3; simp only [List.getElem?_toArray, List.getElem?_cons_zero, List.getElem?_cons_succ] at e0 e1 e2 e3; clear hB2)
      go_roundw
      case rel => exact ⟨m + 1, by omega, by rw [hzH.out]; congr 1, Lib.hid (far4 hR2.out (by omega) _ _ _ _), Lib.hid (by rw [hzH.out]; exact set4 hS2.out _ _ _ _), Lib.hid (below4 hB2H.out (by omega) _ _ _ _)⟩
      case measure => simp [intOf]; omega
    · have hd : decide (((a + m : Nat) : Int) ≤ (b : Int)) = false := decide_eq_false (by omega)
      have hme : b + 1 - a = m := by omega
      have hmeH := Lib.hid hme
      have hnb : ¬ a + m ≤ b := by omega
      have hnd : decide (a + m ≤ b) = false := decide_eq_false hnb
      clear hme
      have d0 := hS.out.cell 0
      have d1 := hS.out.cell 1
      have d2 := hS.out.cell 2
      have d3 := hS.out.cell 3
      have e0 := hR.out.cell 0
      have e1 := hR.out.cell 1
      have e2 := hR.out.cell 2
      have e3 := hR.out.cell 3
      have f0 := hR.out.frozen 0
      have f1 := hR.out.frozen 1
      have f2 := hR.out.frozen 2
      have f3 := hR.out.frozen 3
      simp only [List.getElem?_toArray, List.getElem?_cons_zero, List.getElem?_cons_succ] at d0 d1 d2 d3 e0 e1 e2 e3
      go_wp2
      rw [hmeH.out]
      refine bodyPost_ret (results_cell_row rfl _ _ w.heap.size 25 _ (0, 0) _ rfl (set4 hR.out _ _ _ _) Try.underlying25 rfl rfl) rfl ?_
      exact ⟨rfl, below4 hB.out (Nat.le_refl _) _ _ _ _⟩
end Go.Proofs.Ytimhiacjoplkeaa
