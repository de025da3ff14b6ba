/- The map of classes.refined, as a list of views in the order of their coming. Own text. -/
import Derived.Test.YtbhdpamepmkaiaaArr
import Derived.Maps.OwnSet
namespace Go.Proofs.Ytbhdpamepmkaiaa
open Go.RowKit Go.MapKept Go.ChangeMaps
set_option linter.unusedVariables false
set_option linter.unusedSimpArgs false

def vkey (p : Int × Int) : Value := .agg #[.int .i64 p.1, .int .i64 p.2]
theorem held61 : Try.prog.stoodInHeld 61 = false := by kernel_rfl
theorem agg3 : ∀ w : World, (isAgg 3).run Try.prog w = .ok false w := fun _ => by kernel_rfl
theorem zero3 : ∀ w : World, (zeroValue 3).run Try.prog w = .ok (.int .i64 0) w := fun _ => by kernel_rfl
theorem eqInt (d : Nat) (a b : Int) (w : World) : (Op.equalIn (d + 1) 3 (.int .i64 a) (.int .i64 b)).run Try.prog w = .ok (a == b) w := by
  simp [Op.equalIn, run_underlying Try.underlying3]
theorem eqV (p q : Int × Int) (w : World) : (Op.equal 61 (vkey p) (vkey q)).run Try.prog w = .ok (p.1 == q.1 && p.2 == q.2) w := by
  unfold Op.equal Op.maxDepth vkey
  rw [show (10000 : Nat) = 9998 + 1 + 1 from rfl, Op.equalIn]
  simp only [Sem.run_bind, run_underlying Try.underlying61, Result.andThen_ok]
  simp [held61, part, agg3, eqInt, Sem.run_bind]
  by_cases h : p.1 = q.1 <;> by_cases h2 : p.2 = q.2 <;> simp [h, h2]
theorem chkInt (e : Bool) (d : Nat) (a : Int) (w : World) : (Instr.checkKey e (d + 1) 3 (.int .i64 a)).run Try.prog w = .ok () w := by
  simp [Instr.checkKey, run_underlying Try.underlying3]
theorem chkV (e : Bool) (p : Int × Int) (w : World) : (Instr.checkKey e 10000 61 (vkey p)).run Try.prog w = .ok () w := by
  unfold vkey
  rw [show (10000 : Nat) = 9998 + 1 + 1 from rfl, Instr.checkKey]
  simp only [Sem.run_bind, run_underlying Try.underlying61, Result.andThen_ok]
  simp [part, agg3, chkInt, Sem.run_bind]

/-- The map's entries: the views in the order of their coming, each with its number. -/
def MapIs (w : World) (b : Nat) (S : List (Int × Int)) : Prop :=
  ∃ es clock, w.heap[b]? = some (.map es clock) ∧ es.toList.map (fun e => (e.key, e.val)) = S.mapIdx (fun i p => (vkey p, .int .i64 (i : Int)))
theorem mapIs_new (w : World) : MapIs (w.alloc (.map #[] 0)) w.heap.size [] := ⟨#[], 0, heap_alloc_new w _, by simp⟩
theorem MapIs.lt {w : World} {b : Nat} {S : List (Int × Int)} (h : MapIs w b S) : b < w.heap.size := by
  obtain ⟨es, c, hb, _⟩ := h
  exact (Array.getElem?_eq_some_iff.1 hb).1
theorem MapIs.keep {w w' : World} {b : Nat} {S : List (Int × Int)} (h : MapIs w b S) (hb : w'.heap[b]? = w.heap[b]?) : MapIs w' b S := by
  obtain ⟨es, c, h1, h2⟩ := h
  exact ⟨es, c, hb.trans h1, h2⟩

/-- Where a view stands among the others, counted from i on. -/
def look (v : Int × Int) : List (Int × Int) → Nat → Option Nat
  | [], _ => none
  | p :: S, i => if v = p then some i else look v S (i + 1)
theorem asking (v : Int × Int) (w : World) : ∀ (es : List MapEntry) (S : List (Int × Int)) (i o : Nat), es.map (fun e => (e.key, e.val)) = S.mapIdx (fun j p => (vkey p, .int .i64 ((j + o : Nat) : Int))) →
    (Instr.findAsking 61 (vkey v) es i).run Try.prog w = .ok ((look v S o).map fun n => (n - o + i, .int .i64 (n : Int))) w := by
  intro es
  induction es with
  | nil =>
    intro S i o h
    cases S with
    | nil => simp [Instr.findAsking, look]
    | cons p S => simp at h
  | cons e es ih =>
    intro S i o h
    cases S with
    | nil => simp at h
    | cons p S =>
      simp only [List.map_cons, List.mapIdx_cons, List.cons.injEq, Prod.mk.injEq] at h
      obtain ⟨⟨h1, h2⟩, h3⟩ := h
      have h3' : es.map (fun e => (e.key, e.val)) = S.mapIdx (fun j p => (vkey p, .int .i64 ((j + (o + 1) : Nat) : Int))) := by
        rw [h3]; congr 1; funext j p; simp; omega
      have hi := ih S (i + 1) (o + 1) h3'
      simp only [Instr.findAsking, Sem.run_bind, h1, eqV, Result.andThen_ok, look]
      by_cases hv : v = p
      · subst hv
        simp [h2]
      · have hne : (v.1 == p.1 && v.2 == p.2) = false := by
          rw [Bool.and_eq_false_iff]
          by_cases h5 : v.1 = p.1
          · right; simp; intro h6; exact hv (Prod.ext h5 h6)
          · left; simp [h5]
        rw [hne, if_neg hv]
        simp only [Bool.false_eq_true, if_false]
        rw [hi]
        have hlo : ∀ (S : List (Int × Int)) (a n : Nat), look v S a = some n → a ≤ n := by
          intro S
          induction S with
          | nil => intro a n h; simp [look] at h
          | cons q S ihS =>
            intro a n h
            simp only [look] at h
            split at h
            · injection h with h; omega
            · have := ihS _ _ h; omega
        congr 1
        cases hq : look v S (o + 1) with
        | none => rfl
        | some n => have := hlo S (o + 1) n hq; simp; omega
theorem finding (v : Int × Int) (w : World) (es : List MapEntry) (S : List (Int × Int)) (h : es.map (fun e => (e.key, e.val)) = S.mapIdx (fun j p => (vkey p, .int .i64 (j : Int)))) :
    (Instr.findKey 61 (vkey v) es).run Try.prog w = .ok ((look v S 0).map fun n => (n, .int .i64 (n : Int))) w := by
  have ha := asking v w es S 0 0 (by simpa using h)
  unfold Instr.findKey
  simp only [Sem.run_bind, run_underlying Try.underlying61, Result.andThen_ok]
  cases es with
  | nil =>
    cases S with
    | nil => simp [Instr.findNow, look]
    | cons p S => simp at h
  | cons e es =>
    simp only [Instr.findNow, Instr.sameNow]
    rw [ha]; simp
theorem lookup_ok (v : Int × Int) (w : World) (b : Nat) (S : List (Int × Int)) (hm : MapIs w b S) : (Instr.lookup 59 (.map (some b)) (vkey v) true).run Try.prog w =
    .ok (.tuple #[.int .i64 (((look v S 0).getD 0 : Nat) : Int), .bool (look v S 0).isSome]) w := by
  obtain ⟨es, c, hb, he⟩ := hm
  unfold Instr.lookup
  simp only [Sem.run_bind, run_underlying Try.underlying59, Result.andThen_ok]
  simp [Go.MapKept.run_getObj_map hb, chkV, finding v w es.toList S he]
  cases look v S 0 <;> simp [zero3]
theorem lookup_plain (v : Int × Int) (w : World) (b : Nat) (S : List (Int × Int)) (hm : MapIs w b S) : (Instr.lookup 59 (.map (some b)) (vkey v) false).run Try.prog w =
    .ok (.int .i64 (((look v S 0).getD 0 : Nat) : Int)) w := by
  obtain ⟨es, c, hb, he⟩ := hm
  unfold Instr.lookup
  simp only [Sem.run_bind, run_underlying Try.underlying59, Result.andThen_ok]
  simp [Go.MapKept.run_getObj_map hb, chkV, finding v w es.toList S he]
  cases look v S 0 <;> simp [zero3]
theorem len_map (w : World) (b : Nat) (S : List (Int × Int)) (hm : MapIs w b S) (ty : TypeId) : (Builtin.len_ #[59] ty #[.map (some b)]).run Try.prog w = .ok (.int .i64 (S.length : Int)) w := by
  obtain ⟨es, c, hb, he⟩ := hm
  have hl : es.size = S.length := by have := congrArg List.length he; simpa using this
  simp [Builtin.len_, Builtin.lenOf, Go.MapKept.run_getObj_map hb, hl, run_underlying Try.underlying59, goInt]
theorem update_new (v : Int × Int) (w : World) (b : Nat) (S : List (Int × Int)) (hm : MapIs w b S) (hv : look v S 0 = none) : ∃ w', (Instr.mapUpdate 59 (.map (some b)) (vkey v) (.int .i64 (S.length : Int))).run Try.prog w = .ok () w' ∧
    MapIs w' b (S ++ [v]) ∧ w.grownBy w' (some b) ∧ w'.heap.size = w.heap.size := by
  obtain ⟨es, c, hb, he⟩ := hm
  have hl : es.size = S.length := by have := congrArg List.length he; simpa using this
  refine ⟨setBlock w b (.map (es.push { key := vkey v, val := .int .i64 (S.length : Int), born := c }) (c + 1)), ?_, ⟨es.push { key := vkey v, val := .int .i64 (S.length : Int), born := c }, c + 1, heap_setBlock_same hb _, ?_⟩, ?_, ?_⟩
  · unfold Instr.mapUpdate
    simp only [Sem.run_bind, run_underlying Try.underlying59, Result.andThen_ok]
    simp [Go.MapKept.run_getObj_map hb, chkV, finding v w es.toList S he, hv, Go.MapKept.run_setObj_map _ hb, setBlock]
  · simp [he, hl]
  · exact ⟨rfl, rfl, rfl, by simp [setBlock], fun i _ hi => heap_setBlock_other hb _ (fun e => hi (by rw [e]))⟩
  · simp [setBlock]
end Go.Proofs.Ytbhdpamepmkaiaa
