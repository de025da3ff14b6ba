/- Places: none, one, all, mark: walks. Own text. -/
import Derived.RangeFuncNested
import Derived.RangeFuncBound
import Derived.RangeFuncCalls
import Derived.RangeFuncLeaves
import Derived.RangeFuncBox
import Derived.Shelf.Abstract
import Derived.Shelf.RegionOpen
import Derived.WalkKit
import Derived.OwnWalkIn
import Derived.TacticsInMore
import Derived.LoopNIn
import Derived.LoopIn
import Derived.Sort.QuietIn
import Derived.Maps.AppendAt
import Derived.Lib.Hide
import Derived.Test.YtimhiacjoplkeaaArr
namespace Go.Proofs.Ytimhiacjoplkeaa
open Go.RowKit Go.Shelf Go.Proofs.Ytimhiacjoplkeaa.P Go.Proofs.YtimhiacjoplkeaaW.PrintWords
attribute [local go_sem] Oper.semAt_some
set_option linter.unusedVariables false
set_option linter.unusedSimpArgs false

theorem info4 : (Try.prog.info? 4).map (fun i => (i.zero, i.size, i.bytes)) = some (some (.bool false), 1, 1) := by kernel_rfl
theorem none_c (s : ByteArray) (hs : s.size ≤ 1000000) (w : World) :
    Calls Try.prog 33 #[.string s] w fun e w' => e = .returned (pv s.size w.heap.size) ∧ Blk w' w.heap.size 4 (arB s.size (fun _ => false)) ∧ Below w.heap.size w w' := by
  have hw : IntKind.i64.wrap ((s.size : Int) + 1) = (s.size : Int) + 1 := by rw [IntKind.wrap_i64]; omega
  go_enter Try.func33, Try.ntmps33
  go_wp2_with (refine wpList_make_exact rfl (.tmp 5) (.tmp 5) 56 rfl 4 (.bool false) 1 Try.underlying56 info4 (s.size + 1) _ rfl rfl (by simp) (by omega) (by omega) ?_)
  go_ret
  have hb : Blk (w.alloc (.cells (madeCells #[.bool false] (s.size + 1)) 4)) w.heap.size 4 (madeCells #[.bool false] (s.size + 1)) := Blk.new w 4 _
  rw [arB_made] at hb ⊢
  exact ⟨rfl, hb, below_alloc (Below.refl _ _) _⟩
theorem one_c (s : ByteArray) (hs : s.size ≤ 1000000) (at_ : Nat) (ha : at_ ≤ s.size) (w : World) :
    Calls Try.prog 29 #[.string s, .int .i64 (at_ : Int)] w fun e w' => e = .returned (pv s.size w.heap.size) ∧ Blk w' w.heap.size 4 (arB s.size (fun i => i == at_)) ∧ Below w.heap.size w w' := by
  have hn := Lib.hid (none_c s hs w)
  have hi0 : (0 : Int) ≤ (at_ : Int) := by omega
  have hi1 : (at_ : Int) < ((s.size + 1 : Nat) : Int) := by omega
  have hi2 : at_ < s.size + 1 := by omega
  go_enter Try.func29, Try.ntmps29
  go_upto_region 2 with (go_at_call 33; refine (hn.out).mono ?_; rintro e w1 ⟨rfl, hb1, hB1⟩; have hb1H := Lib.hid hb1; have hB1H := Lib.hid hB1; have hc := hb1.cellB at_ ha; have hf := hb1.frozen at_; clear hb1 hB1)
  go_wp2
  go_ret
  exact ⟨rfl, (hb1H.out.setB at_ true ha).eqB (fun i hi => by simp only [upd]; by_cases e : i = at_ <;> simp [e]), hB1H.out.setCell (p := ⟨w.heap.size, at_, none⟩) (Nat.le_refl _) _⟩
theorem all_c (h N : Nat) (w : World) :
    Calls Try.prog 30 #[pv N h] w fun e w' => e = .returned (.func (.func 38) #[] #[.pointer (some ⟨w.heap.size, 0, none⟩)]) ∧ Boxed w' w.heap.size 56 (pv N h) ∧ Below w.heap.size w w' := by
  go_enter Try.func30, Try.ntmps30
  go_wp2
  go_ret
  exact ⟨rfl, Boxed.new w 56 (pv N h), below_alloc (Below.refl _ _) _⟩

/-! The iterator over the marked places. -/
abbrev PA (N : Nat) (P : Nat → Bool) := { x : Nat // x ≤ N ∧ P x = true }
def encP {N : Nat} {P : Nat → Bool} (x : PA N P) : Array Value := #[.int .i64 (x.1 : Int)]
structure Keep2 (h Bx : Nat) (W W' : World) : Prop where
  size : W.heap.size ≤ W'.heap.size
  row : W'.heap[h]? = W.heap[h]?
  box : W'.heap[Bx]? = W.heap[Bx]?
theorem Keep2.trans {h Bx : Nat} {A B C : World} (x : Keep2 h Bx A B) (y : Keep2 h Bx B C) : Keep2 h Bx A C := ⟨Nat.le_trans x.size y.size, y.row.trans x.row, y.box.trans x.box⟩
theorem upto_succ (P : Nat → Bool) (k : Nat) : (List.range (k + 1)).filter P = if P k = true then (List.range k).filter P ++ [k] else (List.range k).filter P := by
  rw [List.range_succ, List.filter_append]
  cases h : P k <;> simp [h]
theorem upto_len (P : Nat → Bool) (k : Nat) : ((List.range k).filter P).length ≤ k := by
  have := List.length_filter_le P (List.range k)
  rw [List.length_range] at this
  exact this
set_option maxRecDepth 100000 in
set_option maxHeartbeats 1000000 in
theorem all1_in (n : Nat) (hn : 1 ≤ n) (l Bx h N : Nat) (hN : N ≤ 1000000) (P : Nat → Bool) (J Jx : List (PA N P) → World → Prop)
    (hY : ∀ pre x W, J pre W → pre.length < N + 1 → YieldAt Fence.wide (n - 1) Try.prog l (encP x) W fun e W' =>
      (e = .returned (.bool true) ∧ J (pre ++ [x]) W' ∧ Keep2 h Bx W W') ∨ (e = .returned (.bool false) ∧ Jx (pre ++ [x]) W'))
    (W : World) (hJ : AbidesFrom W.heap.size J) (hb : Boxed W Bx 56 (pv N h)) (hr : Blk W h 4 (arB N P)) (h0 : J [] W) :
    CallsIn Fence.wide n Try.prog 38 #[.func (.yield l) #[] #[], .pointer (some ⟨Bx, 0, none⟩)] W fun e W' => (∃ v, e = .returned v) ∧
      ((∃ ys : List (PA N P), ys.map (·.1) = trues N P ∧ J ys W') ∨ (∃ pre, True ∧ Jx pre W')) := by
  have hbH := Lib.hid hb
  have hrH := Lib.hid hr
  have hJH := Lib.hid hJ
  have hYH := Lib.hid hY
  have hc0 := hb.cell
  clear hb hJ hY hr
  refine callsIn_of_wp Try.func38 rfl trivial ?_ rfl
  simp only [Try.ntmps38, List.size_toArray, List.length_cons, List.length_nil, Nat.reduceAdd, Nat.reduceSub, Array.replicate_succ, Array.replicate_zero, List.push_toArray, List.append_toArray, List.nil_append, List.cons_append]
  gi_wp2
  clear hc0
  gi_loopw [7] (fun kk wr => ∃ (k : Nat) (pre : List (PA N P)), k ≤ N + 1 ∧ kk = .int .i64 k ∧ Hid (pre.map (·.1) = (List.range k).filter P) ∧ Hid (J pre wr) ∧ Hid (Blk wr h 4 (arB N P)) ∧ Hid (Boxed wr Bx 56 (pv N h))) (fun kk _ => N + 1 - (intOf kk).toNat)
  case atStart => exact ⟨0, [], by omega, rfl, Lib.hid (by simp), h0, hrH, hbH⟩
  case round =>
    clear h0
    obtain ⟨k, pre, hk, rfl, hpre, hJb, hrw, hbx⟩ := hrel
    by_cases hlt : k < N + 1
    · have hd : decide ((k : Int) < ((N + 1 : Nat) : Int)) = true := decide_eq_true (by omega)
      have hd1 : (k : Int) < ((N + 1 : Nat) : Int) := by omega
      have hd2 : k < N + 1 := hlt
      have hd0 : (0 : Int) ≤ (k : Int) := by omega
      have hc := hrw.out.cellB k (by omega)
      have hw : IntKind.i64.wrap ((k : Int) + 1) = ((k + 1 : Nat) : Int) := by rw [IntKind.wrap_i64]; omega
      by_cases hP : P k = true
      · rw [hP] at hc
        have hlen : pre.length < N + 1 := by
          have h1 := congrArg List.length hpre.out
          rw [List.length_map] at h1
          have := upto_len P k
          omega
        obtain ⟨fn, tmps, assign, body, hy, hR⟩ := hYH.out pre ⟨k, by omega, hP⟩ wr hJb.out hlen
        dsimp only [encP] at hy
        have hnx : Hid ((pre ++ [(⟨k, by omega, hP⟩ : PA N P)]).map (·.1) = (List.range (k + 1)).filter P) := Lib.hid (by
          rw [List.map_append, hpre.out, upto_succ, if_pos hP]; rfl)
        gi_wp2
        refine hR.mono ?_
        rintro e' W' (⟨rfl, hJ3, hk3⟩ | ⟨rfl, hJx3⟩)
        · have hJ3H := Lib.hid hJ3
          have hr3 := Lib.hid (show Blk W' h 4 (arB N P) from hk3.row.trans hrw.out)
          have hb3 := Lib.hid (show Boxed W' Bx 56 (pv N h) from hk3.box.trans hbx.out)
          clear hJ3 hk3
          gi_wp2
          go_roundw
          case rel => exact ⟨k + 1, _, by omega, by go_num, hnx, hJ3H, hr3, hb3⟩
          case measure => simp [intOf]; omega
        · gi_wp2
          refine bodyPost_ret (results_none rfl _ _ _) rfl ?_
          exact ⟨⟨_, rfl⟩, .inr ⟨_, trivial, hJx3⟩⟩
      · have hPf : P k = false := Bool.eq_false_iff.2 hP
        rw [hPf] at hc
        have hnx : Hid (pre.map (·.1) = (List.range (k + 1)).filter P) := Lib.hid (by rw [hpre.out, upto_succ, if_neg hP])
        clear hP hPf
        gi_wp2
        refine ⟨fun _ h => (by cases h), ?_⟩
        gi_wp2
        go_roundw
        case rel => exact ⟨k + 1, pre, by omega, by go_num, hnx, hJb, hrw, hbx⟩
        case measure => simp [intOf]; omega
    · have hd : decide ((k : Int) < ((N + 1 : Nat) : Int)) = false := decide_eq_false (by omega)
      obtain rfl : k = N + 1 := by omega
      gi_wp2
      go_end0
      exact ⟨⟨_, rfl⟩, .inl ⟨pre, hpre.out, hJb.out⟩⟩
theorem keep2_t {h Bx : Nat} : ∀ {A B C : World}, Keep2 h Bx A B → Keep2 h Bx B C → Keep2 h Bx A C := fun x y => x.trans y
theorem all_stops (n : Nat) (hn : 1 ≤ n) (Bx h N : Nat) (hN : N ≤ 1000000) (P : Nat → Bool) (w : World) (hb : Boxed w Bx 56 (pv N h)) (hr : Blk w h 4 (arB N P)) :
    SeqStopsK Fence.wide n Try.prog 38 #[.pointer (some ⟨Bx, 0, none⟩)] encP (Keep2 h Bx) (fun ys : List (PA N P) => ys.map (·.1) = trues N P) (fun _ => True) (N + 1) w := fun l J Jx W hW hJ hJx hY h0 =>
  all1_in n hn l Bx h N hN P J Jx hY W hJ ((hW.block Bx hb.lt).trans hb) (hr.below hW hr.lt) h0
end Go.Proofs.Ytimhiacjoplkeaa
