/- dfa.each: the arcs of where bytes lead to: plain, and the iterator's walk. Own text. -/
import Derived.RangeFuncNested
import Derived.RangeFuncBound
import Derived.RangeFuncCalls
import Derived.RangeFuncLeaves
import Derived.RangeFuncBox
import Derived.Shelf.Abstract
import Derived.Shelf.RegionOpen
import Derived.WalkKit
import Derived.OwnWalkIn
import Derived.TacticsInMore
import Derived.LoopNIn
import Derived.LoopIn
import Derived.Sort.QuietIn
import Derived.Maps.AppendAt
import Derived.Test.YtbhdpamepmkaiaaRRun
namespace Go.Proofs.Ytbhdpamepmkaiaa
open Go.RowKit Go.Shelf Go.Proofs.Ytbhdpamepmkaiaa.P Go.Proofs.YtbhdpamepmkaiaaW.PrintWords
attribute [local go_sem] Oper.semAt_some
set_option linter.unusedVariables false

/-- One byte more: the last arc goes on, or a new one begins. -/
def rstep (L : List S50) (b : Nat) (v : Int) : List S50 :=
  if v < 0 then L else
  match L.getLast? with
  | some a => if a.f1 = (b : Int) - 1 ∧ a.f2 = v then L.dropLast ++ [⟨a.f0, (b : Int), v⟩] else L ++ [⟨(b : Int), (b : Int), v⟩]
  | none => L ++ [⟨(b : Int), (b : Int), v⟩]
/-- The arcs of the first b bytes. -/
def rarcs (tv : List Int) : Nat → List S50
  | 0 => []
  | b + 1 => rstep (rarcs tv b) b (tv.getD b 0)
theorem rarcs_last (tv : List Int) (b : Nat) : ∀ a, (rarcs tv b).getLast? = some a → ∃ j : Nat, j < b ∧ a.f1 = (j : Int) ∧ a.f2 = tv.getD j 0 := by
  induction b with
  | zero => intro a h; simp [rarcs] at h
  | succ b ih =>
    intro a h
    rw [rarcs, rstep] at h
    split at h
    · obtain ⟨j, h1, h2, h3⟩ := ih a h; exact ⟨j, by omega, h2, h3⟩
    · split at h
      · split at h
        · rw [List.getLast?_concat] at h; injection h with h; subst h; exact ⟨b, by omega, rfl, rfl⟩
        · rw [List.getLast?_concat] at h; injection h with h; subst h; exact ⟨b, by omega, rfl, rfl⟩
      · rw [List.getLast?_concat] at h; injection h with h; subst h; exact ⟨b, by omega, rfl, rfl⟩
theorem rarcs_len (tv : List Int) (b : Nat) : (rarcs tv b).length ≤ b := by
  induction b with
  | zero => simp [rarcs]
  | succ b ih =>
    rw [rarcs, rstep]
    split
    · omega
    · split
      · split
        · rename_i a h _
          have : (rarcs tv b) ≠ [] := by intro e; rw [e] at h; simp at h
          have := List.length_pos_iff.2 this
          rw [List.length_append, List.length_dropLast, List.length_singleton]; omega
        · rw [List.length_append, List.length_singleton]; omega
      · rw [List.length_append, List.length_singleton]; omega
/-- At b a run of bytes that lead to the same begins. -/
def SegAt (tv : List Int) (b : Nat) : Prop := b = 0 ∨ tv.getD (b - 1) 0 ≠ tv.getD b 0
/-- A whole run. -/
theorem rarcs_seg (tv : List Int) (b : Nat) (hs : SegAt tv b) (e : Nat) (he : b ≤ e) (hv : ∀ j, b ≤ j → j ≤ e → tv.getD j 0 = tv.getD b 0) :
    rarcs tv (e + 1) = if tv.getD b 0 < 0 then rarcs tv b else rarcs tv b ++ [⟨(b : Int), (e : Int), tv.getD b 0⟩] := by
  obtain ⟨d, rfl⟩ : ∃ d, e = b + d := ⟨e - b, by omega⟩
  clear he
  induction d with
  | zero =>
    rw [Nat.add_zero, rarcs, rstep]
    by_cases h : tv.getD b 0 < 0
    · rw [if_pos h, if_pos h]
    · rw [if_neg h, if_neg h]
      split
      · rename_i a ha
        obtain ⟨j, h1, h2, h3⟩ := rarcs_last tv b a ha
        have hno : ¬ (a.f1 = (b : Int) - 1 ∧ a.f2 = tv.getD b 0) := by
          rintro ⟨h4, h5⟩
          have : j = b - 1 := by omega
          subst this
          rcases hs with h6 | h6
          · omega
          · exact h6 (h3.symm.trans h5)
        rw [if_neg hno]; rfl
      · rfl
  | succ d ih =>
    have hi := ih (fun j h1 h2 => hv j h1 (by omega))
    have e1 : tv.getD (b + (d + 1)) 0 = tv.getD b 0 := hv _ (by omega) (by omega)
    have e2 : rarcs tv (b + (d + 1) + 1) = rstep (rarcs tv (b + d + 1)) (b + (d + 1)) (tv.getD (b + (d + 1)) 0) := rfl
    rw [e2, e1, hi, rstep]
    by_cases h : tv.getD b 0 < 0
    · simp only [if_pos h]
    · simp only [if_neg h]
      rw [List.getLast?_concat]
      simp only
      rw [if_pos ⟨by omega, trivial⟩, List.dropLast_concat]

def encA (x : S50) : Array Value := #[.agg #[.int .u8 x.f0, .int .u8 x.f1, .int .i64 x.f2]]
theorem J_drewN {β : Type} {B : Nat} {J : β → World → Prop} (hJ : AbidesFrom B J) {s : β} {W : World} (h : J s W) (n : Nat) : J s (W.drewN n) :=
  hJ s W _ none h ⟨rfl, rfl, rfl, Nat.le_refl _, fun _ _ _ => rfl⟩ (fun r e => by cases e)

set_option maxRecDepth 100000 in
set_option maxHeartbeats 1000000 in
theorem each1_in (n : Nat) (hn : 1 ≤ n) (l Bt n₀ : Nat) (hBt : Bt < n₀) (tv : List Int) (hto : tv.length = 256) (J Jx : List S50 → World → Prop)
    (hY : ∀ pre x W, J pre W → pre.length < 256 → YieldAt Fence.wide (n - 1) Try.prog l (encA x) W fun e W' =>
      (e = .returned (.bool true) ∧ J (pre ++ [x]) W' ∧ Below n₀ W W') ∨ (e = .returned (.bool false) ∧ Jx (pre ++ [x]) W'))
    (W : World) (hJ : AbidesFrom W.heap.size J) (hb : Blk W Bt 51 (arI .i64 tv)) (h0 : J [] W) :
    CallsIn Fence.wide n Try.prog 34 #[.func (.yield l) #[] #[], .pointer (some ⟨Bt, 0, none⟩)] W fun e W' => (∃ v, e = .returned v) ∧
      ((∃ ys, ys = rarcs tv 256 ∧ J ys W') ∨ (∃ pre, True ∧ Jx pre W')) := by
  have hbH := Lib.hid hb
  have hJH := Lib.hid hJ
  have hYH := Lib.hid hY
  clear hb hJ hY
  refine callsIn_of_wp Try.func34 rfl trivial ?_ rfl
  simp only [Try.ntmps34, List.size_toArray, List.length_cons, List.length_nil, Nat.reduceAdd, Nat.reduceSub, Array.replicate_succ, Array.replicate_zero, List.push_toArray, List.append_toArray, List.nil_append, List.cons_append]
  gi_wp2
  gi_loopw [3] (fun bb wr => ∃ b : Nat, b ≤ 256 ∧ bb = .int .i64 b ∧ Hid (b < 256 → SegAt tv b) ∧ Hid (J (rarcs tv b) wr) ∧ Hid (Blk wr Bt 51 (arI .i64 tv))) (fun bb _ => 256 - (intOf bb).toNat)
  case atStart => exact ⟨0, by omega, rfl, fun _ => .inl rfl, h0, hbH.out⟩
  case round =>
    clear h0
    obtain ⟨b, hb, rfl, hs, hJb, hB⟩ := hrel
    by_cases hlt : b < 256
    · have hdb : decide ((b : Int) < 256) = true := decide_eq_true (by omega)
      gi_wp2
      gi_loopw [4] (fun ee wr => ∃ e : Nat, b ≤ e ∧ e < 256 ∧ ee = .int .i64 e ∧ Hid (∀ j, b ≤ j → j ≤ e → tv.getD j 0 = tv.getD b 0) ∧ Hid (J (rarcs tv b) wr) ∧ Hid (Blk wr Bt 51 (arI .i64 tv))) (fun ee _ => 256 - (intOf ee).toNat)
      case atStart => exact ⟨b, by omega, hlt, rfl, (fun j h1 h2 => by have : j = b := by omega
                                                                       rw [this]), hJb.out, hB.out⟩
      case round =>
        obtain ⟨e, hbe, he, rfl, hv, hJe, hBe⟩ := hrel
        have hc0 : wr.cell? ⟨Bt, b, none⟩ = some (.int .i64 (tv.getD b 0)) := hBe.out.cellI b (by omega)
        have hw1 : IntKind.i64.wrap ((e : Int) + 1) = (e : Int) + 1 := by rw [IntKind.wrap_i64]; omega
        have hw2 : ((e : Int) + 1).toNat = e + 1 := by omega
        have hw3 : (0 : Int) ≤ (e : Int) + 1 := by omega
        have hw4 : (0 : Int) ≤ (b : Int) := by omega
        have hd3 : (b : Int) < 256 := by omega
        have hJ5 := Lib.hid (fun q : Nat => J_drewN hJH.out hJe.out q)
        have hB5 : Hid (∀ q : Nat, Blk (wr.drewN q) Bt 51 (arI .i64 tv)) := fun q => hBe.out
        by_cases hcont : e + 1 < 256 ∧ tv.getD (e + 1) 0 = tv.getD b 0
        · obtain ⟨h1, hxy⟩ := hcont
          have hd1 : decide ((e : Int) + 1 < 256) = true := decide_eq_true (by omega)
          have hd4 : (e : Int) + 1 < 256 := by omega
          have hc1 : wr.cell? ⟨Bt, e + 1, none⟩ = some (.int .i64 (tv.getD (e + 1) 0)) := hBe.out.cellI (e + 1) (by omega)
          have hv2 : Hid (∀ j, b ≤ j → j ≤ e + 1 → tv.getD j 0 = tv.getD b 0) := fun j h2 h3 => by
            rcases Nat.lt_or_ge j (e + 1) with h4 | h4
            · exact hv.out j h2 (by omega)
            · have : j = e + 1 := by omega
              rw [this, hxy]
          rw [hxy] at hc1
          clear hxy
          generalize tv.getD b 0 = x at hc0 hc1 hv2
          have hq : (x == x) = true := by simp
          gi_wp2_with fail
          gi_quiet (fail)
          rename_i nq
          gi_wp2
          go_roundw
          case rel => exact ⟨e + 1, by omega, by omega, by go_num, hv2, hJ5.out nq, hB5.out nq⟩
          case measure => simp [intOf]; omega
        · have hseg : Hid (e + 1 < 256 → SegAt tv (e + 1)) := fun h1 => .inr (by
            rw [Nat.add_sub_cancel, hv.out e (by omega) (Nat.le_refl _)]
            exact fun h => hcont ⟨h1, h.symm⟩)
          have hrs := Lib.hid (rarcs_seg tv b (hs.out hlt) e hbe hv.out)
          have hlen := Lib.hid (rarcs_len tv b)
          rcases (by omega : e + 1 < 256 ∨ e + 1 = 256) with h1 | h1
          · have hxy : ¬ tv.getD (e + 1) 0 = tv.getD b 0 := fun h => hcont ⟨h1, h⟩
            have hd1 : decide ((e : Int) + 1 < 256) = true := decide_eq_true (by omega)
            have hd4 : (e : Int) + 1 < 256 := by omega
            have hc1 : wr.cell? ⟨Bt, e + 1, none⟩ = some (.int .i64 (tv.getD (e + 1) 0)) := hBe.out.cellI (e + 1) (by omega)
            clear hcont
            generalize tv.getD b 0 = x at hc0 hxy hrs
            generalize tv.getD (e + 1) 0 = y at hc1 hxy
            have hq : (y == x) = false := by simpa using hxy
            clear hxy
            gi_wp2_with fail
            gi_quiet (fail)
            rename_i nq
            have hJn := Lib.hid (hJ5.out nq)
            have hBn := Lib.hid (hB5.out nq)
            have hcn : (wr.drewN nq).cell? ⟨Bt, b, none⟩ = some (.int .i64 x) := hc0
            clear hc0 hc1 hJe hBe hJ5 hB5
            generalize wr.drewN nq = W5 at *
            by_cases hx0 : 0 ≤ x
            · have hdx : decide (0 ≤ x) = true := decide_eq_true hx0
              obtain ⟨fn, tmps, assign, body, hy, hR⟩ := hYH.out (rarcs tv b) ⟨(b : Int), (e : Int), x⟩ W5 hJn.out (by have := hlen.out; omega)
              dsimp only [encA] at hy
              gi_wp2
              refine hR.mono ?_
              rintro e' W' (⟨rfl, hJ3, hk3⟩ | ⟨rfl, hJx3⟩)
              · have hrs2 := Lib.hid (hrs.out.trans (if_neg (by omega)))
                have hJ3H := Lib.hid hJ3
                have hk3H := Lib.hid hk3
                clear hJ3 hk3
                gi_wp2
                go_roundw
                case rel => exact ⟨e + 1, by omega, by go_num, hseg, by rw [hrs2.out]; exact hJ3H, Lib.hid (hBn.out.below hk3H.out hBt)⟩
                case measure => simp [intOf]; omega
              · gi_wp2
                refine bodyPost_ret (results_none rfl _ _ _) rfl ?_
                exact ⟨⟨_, rfl⟩, .inr ⟨_, trivial, hJx3⟩⟩
            · have hdx : decide (0 ≤ x) = false := decide_eq_false hx0
              have hrs2 := Lib.hid (hrs.out.trans (if_pos (by omega)))
              gi_wp2
              refine ⟨fun _ h => (by cases h), ?_⟩
              gi_wp2
              go_roundw
              case rel => exact ⟨e + 1, by omega, by go_num, hseg, by rw [hrs2.out]; exact hJn, hBn⟩
              case measure => simp [intOf]; omega
          · have hd1 : decide ((e : Int) + 1 < 256) = false := decide_eq_false (by omega)
            clear hcont
            generalize tv.getD b 0 = x at hc0 hrs
            gi_wp2_with fail
            gi_quiet (fail)
            rename_i nq
            have hJn := Lib.hid (hJ5.out nq)
            have hBn := Lib.hid (hB5.out nq)
            have hcn : (wr.drewN nq).cell? ⟨Bt, b, none⟩ = some (.int .i64 x) := hc0
            clear hc0 hJe hBe hJ5 hB5
            generalize wr.drewN nq = W5 at *
            by_cases hx0 : 0 ≤ x
            · have hdx : decide (0 ≤ x) = true := decide_eq_true hx0
              obtain ⟨fn, tmps, assign, body, hy, hR⟩ := hYH.out (rarcs tv b) ⟨(b : Int), (e : Int), x⟩ W5 hJn.out (by have := hlen.out; omega)
              dsimp only [encA] at hy
              gi_wp2
              refine hR.mono ?_
              rintro e' W' (⟨rfl, hJ3, hk3⟩ | ⟨rfl, hJx3⟩)
              · have hrs2 := Lib.hid (hrs.out.trans (if_neg (by omega)))
                have hJ3H := Lib.hid hJ3
                have hk3H := Lib.hid hk3
                clear hJ3 hk3
                gi_wp2
                go_roundw
                case rel => exact ⟨e + 1, by omega, by go_num, hseg, by rw [hrs2.out]; exact hJ3H, Lib.hid (hBn.out.below hk3H.out hBt)⟩
                case measure => simp [intOf]; omega
              · gi_wp2
                refine bodyPost_ret (results_none rfl _ _ _) rfl ?_
                exact ⟨⟨_, rfl⟩, .inr ⟨_, trivial, hJx3⟩⟩
            · have hdx : decide (0 ≤ x) = false := decide_eq_false hx0
              have hrs2 := Lib.hid (hrs.out.trans (if_pos (by omega)))
              gi_wp2
              refine ⟨fun _ h => (by cases h), ?_⟩
              gi_wp2
              go_roundw
              case rel => exact ⟨e + 1, by omega, by go_num, hseg, by rw [hrs2.out]; exact hJn, hBn⟩
              case measure => simp [intOf]; omega
    · obtain rfl : b = 256 := by omega
      gi_wp2
      go_end0
      exact ⟨⟨_, rfl⟩, .inl ⟨_, rfl, hJb.out⟩⟩
end Go.Proofs.Ytbhdpamepmkaiaa
