/- A machine read out of bytes: plain. Own text: no walk, no printed function in it. -/
import Derived.Test.YtokdggmobhnnpaaEnc
namespace Go.Proofs.Ytokdggmobhnnpaa.Enc
open Go.RowKit Go.Proofs.Ytokdggmobhnnpaa.P
set_option linter.unusedVariables false

/-- Which machines may be. -/
def fitsB (p a : S59) : Bool := decide (p.f1 < a.f0) && (decide (a.f0 ≠ p.f1 + 1) || decide (a.f2 ≠ p.f2))
def arcsOk (n : Nat) : Option S59 → List S59 → Bool
  | _, [] => true
  | pv, a :: l => decide (a.f0 ≤ a.f1) && decide (0 ≤ a.f2) && decide (a.f2 < (n : Int)) && (match pv with | none => true | some p => fitsB p a) && arcsOk n (some a) l
def goodB (m : List S57) : Bool := decide (m.length ≤ 4096) && m.all (fun s => arcsOk m.length none s.f1)
theorem arcsOk_arc (n : Nat) : ∀ (l : List S59) (pv : Option S59), arcsOk n pv l = true → ∀ a ∈ l, 0 ≤ a.f2 ∧ a.f2 < (n : Int) := by
  intro l
  induction l with
  | nil => intro pv _ a ha; simp at ha
  | cons b l ih =>
    intro pv h a ha
    simp only [arcsOk, Bool.and_eq_true, decide_eq_true_eq] at h
    rcases List.mem_cons.1 ha with rfl | ha
    · exact ⟨h.1.1.1.2, h.1.1.2⟩
    · exact ih _ h.2 a ha
theorem arcsOk_len (n : Nat) : ∀ (l : List S59) (pv : Option S59), (∀ a ∈ l, OkA a) → arcsOk n pv l = true → (∀ p, pv = some p → p.f1 ≤ 255) → (l.length : Int) ≤ match pv with | none => 256 | some p => 255 - p.f1 := by
  intro l
  induction l with
  | nil => intro pv _ _ hp; cases pv with
    | none => simp
    | some p => have := hp p rfl; simp; omega
  | cons b l ih =>
    intro pv ho h hp
    have hb := ho b (by simp)
    simp only [arcsOk, Bool.and_eq_true, decide_eq_true_eq] at h
    have hI := ih (some b) (fun a ha => ho a (by simp [ha])) h.2 (fun p e => by injection e with e; subst e; exact hb.2.1.2)
    simp only at hI
    rw [List.length_cons]
    cases pv with
    | none => simp only; have := hb.1.1; omega
    | some p =>
      simp only
      have hf := h.1.2
      simp only [fitsB, Bool.and_eq_true, decide_eq_true_eq] at hf
      omega
theorem good_arcs (m : List S57) (hg : goodB m = true) (ho : OkM m) (s : S57) (hs : s ∈ m) : s.f1.length ≤ 256 ∧ ∀ a ∈ s.f1, 0 ≤ a.f2 ∧ a.f2 < 4096 := by
  simp only [goodB, Bool.and_eq_true, decide_eq_true_eq, List.all_eq_true] at hg
  have h1 := arcsOk_len m.length s.f1 none (ho.2 s hs).2.2 (hg.2 s hs) (fun p e => by cases e)
  simp only at h1
  exact ⟨by omega, fun a ha => by have := arcsOk_arc m.length s.f1 none (hg.2 s hs) a ha; omega⟩
theorem good_len (m : List S57) (hg : goodB m = true) : m.length ≤ 4096 := by
  simp only [goodB, Bool.and_eq_true, decide_eq_true_eq] at hg
  exact hg.1

/-- A reader: what is left, and whether something was bad. -/
structure Rd where
  rest : List Int
  bad : Bool
def rnum (p : Rd) : Nat × Rd := match dec 0 p.rest with
  | some (n, k) => (n, ⟨p.rest.drop k, p.bad⟩)
  | none => (0, ⟨p.rest, true⟩)
def rcount (p : Rd) (limit : Nat) : Nat × Rd := if limit < (rnum p).1 then (0, ⟨(rnum p).2.rest, true⟩) else rnum p
def rbyte (p : Rd) : Int × Rd := match p.rest with
  | [] => (0, ⟨[], true⟩)
  | c :: r => (c, ⟨r, p.bad⟩)
/-- One arc. -/
def rarc (p : Rd) : S59 × Rd :=
  let x := rbyte p
  let y := rbyte x.2
  let z := rcount y.2 4096
  (⟨x.1, y.1, (z.1 : Int)⟩, z.2)
def rarcs : Nat → Rd → List S59 → Rd × List S59
  | 0, p, acc => (p, acc)
  | k + 1, p, acc => if p.bad = true then (p, acc) else rarcs k (rarc p).2 (acc ++ [(rarc p).1])
/-- One state. -/
def rstate (p : Rd) : S57 × Rd :=
  let x := rnum p
  let y := rcount x.2 x.2.rest.length
  let z := rarcs y.1 y.2 []
  (⟨(x.1 : Int), z.2⟩, z.1)
def rstates : Nat → Rd → List S57 → Rd × List S57
  | 0, p, acc => (p, acc)
  | n + 1, p, acc => if p.bad = true then (p, acc) else rstates n (rstate p).2 (acc ++ [(rstate p).1])
def headOk (b : List Int) : Prop := b.take 4 = [68, 70, 65, 49] ∧ 8 ≤ b.length ∧ four (sumL (b.take (b.length - 4))) = b.drop (b.length - 4)
instance (b : List Int) : Decidable (headOk b) := by unfold headOk; infer_instance
def parse (b : List Int) : Rd × List S57 :=
  let r := rcount ⟨(b.drop 4).take (b.length - 8), false⟩ 4096
  rstates r.1 r.2 []
def getL (b : List Int) : List S57 × Int :=
  if headOk b then (if (parse b).1.bad = false ∧ (parse b).1.rest = [] ∧ goodB (parse b).2 = true then ((parse b).2, 0) else ([], 110)) else ([], 110)

/-! What is put is read. -/
theorem rnum_num (n : Nat) (hn : n < 18446744073709551616) (r : List Int) (bad : Bool) : rnum ⟨num n ++ r, bad⟩ = (n, ⟨r, bad⟩) := by
  unfold rnum
  simp only [dec_num n 0 r (by omega) (by simpa using hn) (.inr rfl), List.drop_left]
theorem rcount_num (n : Nat) (l : Nat) (h : n ≤ l) (hn : n < 18446744073709551616) (r : List Int) (bad : Bool) : rcount ⟨num n ++ r, bad⟩ l = (n, ⟨r, bad⟩) := by
  unfold rcount
  rw [rnum_num n hn]
  rw [if_neg (by simp only; omega)]
theorem rarc_enc (a : S59) (ho : OkA a) (h : a.f2 ≤ 4096) (r : List Int) : rarc ⟨encA a ++ r, false⟩ = (a, ⟨r, false⟩) := by
  unfold rarc encA
  simp only [rbyte, List.cons_append]
  rw [rcount_num a.f2.toNat 4096 (by omega) (by omega)]
  have := ho.2.2.1
  obtain ⟨x, y, z⟩ := a
  simp only [Prod.mk.injEq, and_true, S59.mk.injEq, true_and]
  simp only at this
  omega
theorem rarcs_enc : ∀ (l acc : List S59) (r : List Int), (∀ a ∈ l, OkA a ∧ a.f2 ≤ 4096) → rarcs l.length ⟨l.flatMap encA ++ r, false⟩ acc = (⟨r, false⟩, acc ++ l) := by
  intro l
  induction l with
  | nil => intro acc r _; simp [rarcs]
  | cons a l ih =>
    intro acc r h
    obtain ⟨h1, h2⟩ := h a (by simp)
    rw [List.length_cons, rarcs, if_neg (by simp), List.flatMap_cons, List.append_assoc, rarc_enc a h1 h2]
    simp only
    rw [ih _ _ (fun x hx => h x (by simp [hx]))]
    simp
theorem encA_len (l : List S59) : l.length ≤ (l.flatMap encA).length := by
  induction l with
  | nil => simp
  | cons a l ih => rw [List.flatMap_cons, List.length_append, List.length_cons]; simp only [encA, List.length_cons]; omega
theorem rstate_enc (s : S57) (ho : OkS s) (h : ∀ a ∈ s.f1, a.f2 ≤ 4096) (r : List Int) : rstate ⟨encS s ++ r, false⟩ = (s, ⟨r, false⟩) := by
  unfold rstate encS
  simp only [List.append_assoc]
  rw [rnum_num s.f0.toNat (by have := ho.1; omega)]
  simp only
  have hl : s.f1.length ≤ (num s.f1.length ++ (s.f1.flatMap encA ++ r)).length := by
    rw [List.length_append, List.length_append]; have := encA_len s.f1; omega
  rw [rcount_num s.f1.length _ hl ho.2.1]
  simp only
  rw [rarcs_enc s.f1 [] r (fun a ha => ⟨ho.2.2 a ha, h a ha⟩)]
  have := ho.1.1
  obtain ⟨x, y⟩ := s
  simp only [Prod.mk.injEq, and_true, S57.mk.injEq, List.nil_append]
  simp only at this
  omega
theorem rstates_enc : ∀ (l acc : List S57) (r : List Int), (∀ s ∈ l, OkS s ∧ ∀ a ∈ s.f1, a.f2 ≤ 4096) → rstates l.length ⟨l.flatMap encS ++ r, false⟩ acc = (⟨r, false⟩, acc ++ l) := by
  intro l
  induction l with
  | nil => intro acc r _; simp [rstates]
  | cons a l ih =>
    intro acc r h
    obtain ⟨h1, h2⟩ := h a (by simp)
    rw [List.length_cons, rstates, if_neg (by simp), List.flatMap_cons, List.append_assoc, rstate_enc a h1 h2]
    simp only
    rw [ih _ _ (fun x hx => h x (by simp [hx]))]
    simp
theorem putL_head (m : List S57) : headOk (putL m) := by
  have hl : (putL m).length = (body m).length + 4 := by unfold putL; rw [List.length_append, four_len]
  have hb : 4 ≤ (body m).length := by unfold body; simp only [List.length_cons]; omega
  refine ⟨by simp [putL, body], by omega, ?_⟩
  rw [hl, Nat.add_sub_cancel]
  unfold putL
  rw [List.take_left, List.drop_left]
theorem putL_mid (m : List S57) : ((putL m).drop 4).take ((putL m).length - 8) = num m.length ++ m.flatMap encS := by
  have hl : (putL m).length = (num m.length ++ m.flatMap encS).length + 8 := by unfold putL body; simp only [List.length_append, List.length_cons, four_len]
  rw [hl, Nat.add_sub_cancel]
  have e : (putL m).drop 4 = (num m.length ++ m.flatMap encS) ++ four (sumL (body m)) := by unfold putL body; simp
  rw [e, List.take_left]
theorem get_put (m : List S57) (hg : goodB m = true) (ho : OkM m) : getL (putL m) = (m, 0) := by
  have hp : parse (putL m) = (⟨[], false⟩, m) := by
    unfold parse
    simp only
    rw [putL_mid, rcount_num m.length 4096 (good_len m hg) ho.1]
    simp only
    have := rstates_enc m [] [] (fun s hs => ⟨ho.2 s hs, fun a ha => by have := (good_arcs m hg ho s hs).2 a ha; omega⟩)
    rw [List.append_nil] at this
    rw [this, List.nil_append]
  unfold getL
  rw [if_pos (putL_head m), hp, if_pos ⟨rfl, rfl, hg⟩]

/-! What is read was put. -/
theorem rnum_bad (p : Rd) (h : (rnum p).2.bad = false) (hb : ∀ x ∈ p.rest, 0 ≤ x ∧ x ≤ 255) : p.bad = false ∧ p.rest = num (rnum p).1 ++ (rnum p).2.rest ∧ (rnum p).1 < 18446744073709551616 := by
  unfold rnum at h ⊢
  cases hd : dec 0 p.rest with
  | none => rw [hd] at h; cases h
  | some q =>
    obtain ⟨n, k⟩ := q
    rw [hd] at h
    obtain ⟨h1, _, h3, _⟩ := dec_spec p.rest 0 n k hb hd
    exact ⟨h, h1, by simpa using h3⟩
theorem rcount_bad (p : Rd) (l : Nat) (h : (rcount p l).2.bad = false) (hb : ∀ x ∈ p.rest, 0 ≤ x ∧ x ≤ 255) : p.bad = false ∧ p.rest = num (rcount p l).1 ++ (rcount p l).2.rest ∧ (rcount p l).1 < 18446744073709551616 ∧ (rcount p l).1 ≤ l := by
  unfold rcount at h ⊢
  split at h
  · cases h
  · rename_i hn
    rw [if_neg hn]
    obtain ⟨h1, h2, h3⟩ := rnum_bad p h hb
    exact ⟨h1, h2, h3, by omega⟩
theorem rbyte_bad (p : Rd) (h : (rbyte p).2.bad = false) : p.bad = false ∧ p.rest = (rbyte p).1 :: (rbyte p).2.rest := by
  unfold rbyte at h ⊢
  cases hr : p.rest with
  | nil => rw [hr] at h; cases h
  | cons c r => rw [hr] at h; exact ⟨h, rfl⟩
theorem bd_tail {l : List Int} {c : Int} {r : List Int} (hb : ∀ x ∈ l, 0 ≤ x ∧ x ≤ 255) (e : l = c :: r) : (0 ≤ c ∧ c ≤ 255) ∧ ∀ x ∈ r, 0 ≤ x ∧ x ≤ 255 := by
  subst e; exact ⟨hb c (by simp), fun x hx => hb x (by simp [hx])⟩
theorem bd_app {l a r : List Int} (hb : ∀ x ∈ l, 0 ≤ x ∧ x ≤ 255) (e : l = a ++ r) : ∀ x ∈ r, 0 ≤ x ∧ x ≤ 255 := by
  subst e; exact fun x hx => hb x (by simp [hx])
theorem rarc_bad (p : Rd) (h : (rarc p).2.bad = false) (hb : ∀ x ∈ p.rest, 0 ≤ x ∧ x ≤ 255) : p.bad = false ∧ p.rest = encA (rarc p).1 ++ (rarc p).2.rest ∧ OkA (rarc p).1 := by
  unfold rarc at h ⊢
  simp only at h ⊢
  generalize hx : rbyte p = x at *
  generalize hy : rbyte x.2 = y at *
  generalize hz : rcount y.2 4096 = z at *
  have h3 := fun hb => rcount_bad y.2 4096 (by rw [hz]; exact h) hb
  rw [hz] at h3
  have hyb : y.2.bad = false := by
    cases hq : y.2.bad with
    | false => rfl
    | true =>
      exfalso
      have : (rcount y.2 4096).2.bad = true := by
        unfold rcount
        split
        · rfl
        · unfold rnum; split
          · exact hq
          · rfl
      rw [hz, h] at this; cases this
  have h2 := rbyte_bad x.2 (by rw [hy]; exact hyb)
  rw [hy] at h2
  have h1 := rbyte_bad p (by rw [hx]; exact h2.1)
  rw [hx] at h1
  obtain ⟨hc1, hb1⟩ := bd_tail hb h1.2
  obtain ⟨hc2, hb2⟩ := bd_tail hb1 h2.2
  obtain ⟨_, e3, h4, h5⟩ := h3 hb2
  refine ⟨h1.1, ?_, hc1, hc2, by simp only; omega, by simp only; omega⟩
  rw [h1.2, h2.2, e3]
  simp [encA]
theorem rarcs_bad (k : Nat) : ∀ (p : Rd) (acc : List S59), (rarcs k p acc).1.bad = false → (∀ x ∈ p.rest, 0 ≤ x ∧ x ≤ 255) →
    p.bad = false ∧ ∃ l, (rarcs k p acc).2 = acc ++ l ∧ l.length = k ∧ (∀ a ∈ l, OkA a) ∧ p.rest = l.flatMap encA ++ (rarcs k p acc).1.rest := by
  induction k with
  | zero => intro p acc h _; exact ⟨h, [], by simp [rarcs], rfl, by simp, by simp [rarcs]⟩
  | succ k ih =>
    intro p acc h hb
    rw [rarcs] at h ⊢
    cases hp : p.bad with
    | true => rw [hp, if_pos rfl] at h; rw [hp] at h; cases h
    | false =>
      rw [hp, if_neg (by simp)] at h
      rw [if_neg (by simp)]
      have hbad : (rarc p).2.bad = false := by
        cases k with
        | zero => exact h
        | succ k =>
          cases hq : (rarc p).2.bad with
          | false => rfl
          | true => rw [rarcs, hq, if_pos rfl] at h; rw [hq] at h; cases h
      obtain ⟨_, e1, ho⟩ := rarc_bad p hbad hb
      obtain ⟨_, l, h1, h2, h3, h4⟩ := ih _ _ h (bd_app hb e1)
      refine ⟨rfl, (rarc p).1 :: l, by rw [h1]; simp, by simp [h2], fun a ha => ?_, by rw [List.flatMap_cons, List.append_assoc, ← h4, ← e1]⟩
      rcases List.mem_cons.1 ha with rfl | ha
      · exact ho
      · exact h3 a ha
theorem rstate_bad (p : Rd) (h : (rstate p).2.bad = false) (hb : ∀ x ∈ p.rest, 0 ≤ x ∧ x ≤ 255) : p.bad = false ∧ p.rest = encS (rstate p).1 ++ (rstate p).2.rest ∧ OkS (rstate p).1 := by
  unfold rstate at h ⊢
  simp only at h ⊢
  generalize hx : rnum p = x at *
  generalize hy : rcount x.2 x.2.rest.length = y at *
  have hyb : y.2.bad = false := by
    cases hk : y.1 with
    | zero => rw [hk] at h; exact h
    | succ k =>
      cases hq : y.2.bad with
      | false => rfl
      | true => rw [hk, rarcs, hq, if_pos rfl] at h; rw [hq] at h; cases h
  have hxb : x.2.bad = false := by
    cases hq : x.2.bad with
    | false => rfl
    | true =>
      exfalso
      have : (rcount x.2 x.2.rest.length).2.bad = true := by
        unfold rcount
        split
        · rfl
        · unfold rnum; split
          · exact hq
          · rfl
      rw [hy, hyb] at this; cases this
  have h1 := rnum_bad p (by rw [hx]; exact hxb) hb
  rw [hx] at h1
  have hb1 := bd_app hb h1.2.1
  have h2 := rcount_bad x.2 x.2.rest.length (by rw [hy]; exact hyb) hb1
  rw [hy] at h2
  have hb2 := bd_app hb1 h2.2.1
  obtain ⟨_, l, e1, e2, e3, e4⟩ := rarcs_bad y.1 y.2 [] h hb2
  rw [List.nil_append] at e1
  refine ⟨h1.1, ?_, ⟨by simp only; omega, by simp only; omega⟩, by simp only; rw [e1, e2]; exact h2.2.2.1, by simp only; rw [e1]; exact e3⟩
  rw [h1.2.1, h2.2.1, e4]
  unfold encS
  simp only [e1, e2, List.append_assoc, Int.toNat_natCast]
theorem rstates_bad (k : Nat) : ∀ (p : Rd) (acc : List S57), (rstates k p acc).1.bad = false → (∀ x ∈ p.rest, 0 ≤ x ∧ x ≤ 255) →
    p.bad = false ∧ ∃ l, (rstates k p acc).2 = acc ++ l ∧ l.length = k ∧ (∀ a ∈ l, OkS a) ∧ p.rest = l.flatMap encS ++ (rstates k p acc).1.rest := by
  induction k with
  | zero => intro p acc h _; exact ⟨h, [], by simp [rstates], rfl, by simp, by simp [rstates]⟩
  | succ k ih =>
    intro p acc h hb
    rw [rstates] at h ⊢
    cases hp : p.bad with
    | true => rw [hp, if_pos rfl] at h; rw [hp] at h; cases h
    | false =>
      rw [hp, if_neg (by simp)] at h
      rw [if_neg (by simp)]
      have hbad : (rstate p).2.bad = false := by
        cases k with
        | zero => exact h
        | succ k =>
          cases hq : (rstate p).2.bad with
          | false => rfl
          | true => rw [rstates, hq, if_pos rfl] at h; rw [hq] at h; cases h
      obtain ⟨_, e1, ho⟩ := rstate_bad p hbad hb
      obtain ⟨_, l, h1, h2, h3, h4⟩ := ih _ _ h (bd_app hb e1)
      refine ⟨rfl, (rstate p).1 :: l, by rw [h1]; simp, by simp [h2], fun a ha => ?_, by rw [List.flatMap_cons, List.append_assoc, ← h4, ← e1]⟩
      rcases List.mem_cons.1 ha with rfl | ha
      · exact ho
      · exact h3 a ha
theorem get_spec (b : List Int) (hb : ∀ x ∈ b, 0 ≤ x ∧ x ≤ 255) : (getL b = ([], 110) ∧ ∀ m, goodB m = true → OkM m → b ≠ putL m) ∨ (∃ m, getL b = (m, 0) ∧ goodB m = true ∧ OkM m ∧ b = putL m) := by
  have hno : getL b = ([], 110) → ∀ m, goodB m = true → OkM m → b ≠ putL m := by
    rintro h m hg ho rfl
    rw [get_put m hg ho] at h
    simp at h
  by_cases hh : headOk b
  · by_cases hp : (parse b).1.bad = false ∧ (parse b).1.rest = [] ∧ goodB (parse b).2 = true
    · right
      have e : getL b = ((parse b).2, 0) := by unfold getL; rw [if_pos hh, if_pos hp]
      refine ⟨_, e, hp.2.2, ?_⟩
      obtain ⟨p1, p2, p3⟩ := hp
      obtain ⟨h1, h2, h3⟩ := hh
      have hmid : ∀ x ∈ (b.drop 4).take (b.length - 8), 0 ≤ x ∧ x ≤ 255 := fun x hx => hb x (List.mem_of_mem_drop (List.mem_of_mem_take hx))
      unfold parse at p1 p2 p3 ⊢
      simp only at p1 p2 p3 ⊢
      generalize hr : rcount ⟨(b.drop 4).take (b.length - 8), false⟩ 4096 = r at *
      have hrb : r.2.bad = false := by
        cases hk : r.1 with
        | zero => rw [hk] at p1; exact p1
        | succ k =>
          cases hq : r.2.bad with
          | false => rfl
          | true => rw [hk, rstates, hq, if_pos rfl] at p1; rw [hq] at p1; cases p1
      have hc := rcount_bad ⟨(b.drop 4).take (b.length - 8), false⟩ 4096 (by rw [hr]; exact hrb) hmid
      rw [hr] at hc
      obtain ⟨_, e2, e3, e4⟩ := hc
      simp only at e2
      obtain ⟨_, l, f1, f2, f3, f4⟩ := rstates_bad r.1 r.2 [] p1 (bd_app hmid e2)
      rw [List.nil_append] at f1
      rw [p2, List.append_nil] at f4
      rw [f1]
      refine ⟨⟨by rw [f2]; exact e3, f3⟩, ?_⟩
      have g1 : b = b.take 4 ++ ((b.drop 4).take (b.length - 8) ++ b.drop (b.length - 4)) := by
        have : b.drop (b.length - 4) = (b.drop 4).drop (b.length - 8) := by rw [List.drop_drop]; congr 1; omega
        rw [this, List.take_append_drop, List.take_append_drop]
      have g2 : b.take (b.length - 4) = body l := by
        have : b.take (b.length - 4) = b.take 4 ++ (b.drop 4).take (b.length - 8) := by
          rw [show b.length - 4 = 4 + (b.length - 8) by omega, List.take_add]
        rw [this, h1, e2, f4]
        unfold body
        rw [f2]; rfl
      have g3 : b = b.take (b.length - 4) ++ b.drop (b.length - 4) := (List.take_append_drop _ _).symm
      rw [g3, ← h3, g2]
      rfl
    · left
      have e : getL b = ([], 110) := by unfold getL; rw [if_pos hh, if_neg hp]
      exact ⟨e, hno e⟩
  · left
    have e : getL b = ([], 110) := by unfold getL; rw [if_neg hh]
    exact ⟨e, hno e⟩
end Go.Proofs.Ytokdggmobhnnpaa.Enc
