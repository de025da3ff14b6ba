/- The machine of a machine's classes and table is it: plain. Own text. -/
import Derived.Test.YtbhdpamepmkaiaaRBack
import Derived.Test.YtbhdpamepmkaiaaOpen
namespace Go.Proofs.Ytbhdpamepmkaiaa
open Go.RowKit Go.Proofs.Ytbhdpamepmkaiaa.P Go.Proofs.Ytbhdpamepmkaiaa.Plain
set_option linter.unusedVariables false

/-- A row of arcs, from lo on; pv: where the byte ahead of lo leads, if an arc ends there. -/
def GoodFrom (n : Nat) : Int → Option Int → List S50 → Prop
  | _, _, [] => True
  | lo, pv, a :: l => lo ≤ a.f0 ∧ a.f0 ≤ a.f1 ∧ a.f1 ≤ 255 ∧ 0 ≤ a.f2 ∧ a.f2 < (n : Int) ∧ (a.f0 = lo → pv ≠ some a.f2) ∧ GoodFrom n (a.f1 + 1) (some a.f2) l
def Byt (l : List S50) : Prop := ∀ a ∈ l, ArcB a
theorem rd_cons0 (a : S50) (l : List S50) : rd_T50 (a :: l) ((0 : Nat) : Int) = a := by simp [rd_T50]
theorem rd_consS (a : S50) (l : List S50) (i : Nat) : rd_T50 (a :: l) ((i + 1 : Nat) : Int) = rd_T50 l (i : Int) := by
  simp only [rd_T50, Int.toNat_natCast, List.getD_cons_succ]
theorem arcs_tail {n : Nat} {a : S50} {l : List S50} (h : ArcsFrom n (a :: l) 0) : ArcsFrom n l 0 := fun i _ hi => by
  obtain ⟨h1, h2⟩ := h (i + 1) (by omega) (by simpa using hi)
  rw [rd_consS] at h1 h2
  refine ⟨h1, fun h0 => ?_⟩
  have h3 := h2 (by omega)
  obtain ⟨j, rfl⟩ : ∃ j, i = j + 1 := ⟨i - 1, by omega⟩
  simp only [Nat.add_sub_cancel] at h3 ⊢
  rw [rd_consS] at h3
  exact h3
theorem good_of (n : Nat) : ∀ (l : List S50) (lo : Int) (pv : Option Int), ArcsFrom n l 0 → Byt l → (∀ a r, l = a :: r → lo ≤ a.f0 ∧ (a.f0 = lo → pv ≠ some a.f2)) → GoodFrom n lo pv l := by
  intro l
  induction l with
  | nil => intro _ _ _ _ _; trivial
  | cons a l ih =>
    intro lo pv h hb h0
    obtain ⟨hA, _⟩ := h 0 (Nat.le_refl _) (by simp)
    rw [rd_cons0] at hA
    obtain ⟨h1, h2, h3⟩ := hA
    obtain ⟨hlo, hpv⟩ := h0 a l rfl
    have hba := hb a (by simp)
    refine ⟨hlo, h1, hba.2.2, h2, h3, hpv, ih _ _ (arcs_tail h) (fun x hx => hb x (by simp [hx])) (fun c r hl => ?_)⟩
    subst hl
    obtain ⟨_, hp⟩ := h 1 (by omega) (by simp)
    have hp2 := hp (by omega)
    have e1 : rd_T50 (a :: c :: r) ((1 : Nat) : Int) = c := by simp [rd_T50]
    have e0 : rd_T50 (a :: c :: r) ((1 - 1 : Nat) : Int) = a := by simp [rd_T50]
    rw [e1, e0] at hp2
    obtain ⟨hp3, hp4⟩ := hp2
    have hbc := hb c (by simp)
    refine ⟨by omega, fun he hc => hp4 ⟨by rw [he]; omega, ?_⟩⟩
    injection hc with hc
    exact hc.symm
theorem nextA_below {n : Nat} : ∀ (l : List S50) (lo : Int) (pv : Option Int) (b : Int), GoodFrom n lo pv l → b < lo → nextA l b = -1 := by
  intro l
  induction l with
  | nil => intro _ _ _ _ _; rfl
  | cons a l ih =>
    intro lo pv b h hb
    obtain ⟨h1, h2, h3, h4, h5, h6, h7⟩ := h
    rw [nextA_cons, if_neg (by omega)]
    exact ih _ _ b h7 (by omega)
theorem rarcs_skip (tv : List Int) (b e : Nat) (h : b ≤ e) (hv : ∀ j, b ≤ j → j < e → tv.getD j 0 < 0) : rarcs tv e = rarcs tv b := by
  obtain ⟨d, rfl⟩ : ∃ d, e = b + d := ⟨e - b, by omega⟩
  clear h
  induction d with
  | zero => rfl
  | succ d ih =>
    have h1 := rstep_skip tv (b + d) (hv (b + d) (by omega) (by omega))
    rw [show b + (d + 1) = b + d + 1 from rfl, h1]
    exact ih (fun j h2 h3 => hv j h2 (by omega))
theorem rarcs_good (n : Nat) (tv : List Int) : ∀ (l : List S50) (b0 : Nat) (pv : Option Int), b0 ≤ 256 → GoodFrom n (b0 : Int) pv l → (∀ b, b0 ≤ b → b < 256 → tv.getD b 0 = nextA l (b : Int)) → (0 < b0 → pv = some (tv.getD (b0 - 1) 0)) →
    rarcs tv 256 = rarcs tv b0 ++ l := by
  intro l
  induction l with
  | nil =>
    intro b0 pv hb _ htv _
    rw [List.append_nil]
    exact rarcs_skip tv b0 256 hb (fun j h1 h2 => by rw [htv j h1 h2]; show (-1 : Int) < 0; decide)
  | cons a l ih =>
    intro b0 pv hb hg htv hpv
    obtain ⟨h1, h2, h3, h4, h5, h6, h7⟩ := hg
    obtain ⟨f0, hf0⟩ := Int.eq_ofNat_of_zero_le (show 0 ≤ a.f0 by omega)
    obtain ⟨f1, hf1⟩ := Int.eq_ofNat_of_zero_le (show 0 ≤ a.f1 by omega)
    have hin : ∀ j, f0 ≤ j → j ≤ f1 → tv.getD j 0 = a.f2 := fun j hj1 hj2 => by
      rw [htv j (by omega) (by omega), nextA_cons, if_pos (by omega)]
    have hgap : ∀ j, b0 ≤ j → j < f0 → tv.getD j 0 = -1 := fun j hj1 hj2 => by
      rw [htv j hj1 (by omega), nextA_cons, if_neg (by omega)]
      exact nextA_below l _ _ _ h7 (by omega)
    have hsk : rarcs tv f0 = rarcs tv b0 := rarcs_skip tv b0 f0 (by omega) (fun j hj1 hj2 => by rw [hgap j hj1 hj2]; decide)
    have hf2 : tv.getD f0 0 = a.f2 := hin f0 (Nat.le_refl _) (by omega)
    have hseg : SegAt tv f0 := by
      by_cases h0 : f0 = 0
      · exact .inl h0
      · right
        rw [hf2]
        by_cases he : f0 = b0
        · have hp := hpv (by omega)
          subst he
          have h8 := h6 (by omega)
          intro hc
          rw [hc] at hp
          exact h8 hp
        · rw [hgap (f0 - 1) (by omega) (by omega)]; omega
    have hrun := rarcs_seg tv f0 hseg f1 (by omega) (fun j hj1 hj2 => by rw [hin j hj1 hj2, hf2])
    rw [hf2, if_neg (by omega), hsk] at hrun
    have hI := ih (f1 + 1) (some a.f2) (by omega) (by rw [hf1] at h7; exact h7) (fun b hb1 hb2 => by
      rw [htv b (by omega) hb2, nextA_cons, if_neg (by omega)]) (fun _ => by rw [Nat.add_sub_cancel, hin f1 (by omega) (Nat.le_refl _)])
    rw [hI, hrun, List.append_assoc]
    congr 1
    show [(⟨(f0 : Int), (f1 : Int), a.f2⟩ : S50)] ++ l = a :: l
    rw [show ((f0 : Nat) : Int) = a.f0 from hf0.symm, show ((f1 : Nat) : Int) = a.f1 from hf1.symm]
    rfl
theorem rarcs_whole (n : Nat) (l : List S50) (h : ArcsFrom n l 0) (hb : Byt l) (tv : List Int) (htv : ∀ b, b < 256 → tv.getD b 0 = nextA l (b : Int)) : rarcs tv 256 = l := by
  have hg := good_of n l 0 none h hb (fun a r hl => ⟨(hb a (by rw [hl]; simp)).1.1, fun _ => by simp⟩)
  have := rarcs_good n tv l 0 none (by omega) hg (fun b _ hb2 => htv b hb2) (fun h => absurd h (by omega))
  rw [this]; rfl
/-! Where a right machine leads. -/
theorem nextA_good (n : Nat) (b : Int) : ∀ l : List S50, ArcsFrom n l 0 → -1 ≤ nextA l b ∧ nextA l b < (n : Int) := by
  intro l
  induction l with
  | nil => intro _; exact ⟨by show (-1 : Int) ≤ -1; omega, by show (-1 : Int) < _; omega⟩
  | cons a l ih =>
    intro h
    obtain ⟨⟨_, h2, h3⟩, _⟩ := h 0 (Nat.le_refl _) (by simp)
    rw [rd_cons0] at h2 h3
    rw [nextA_cons]
    split
    · omega
    · exact ih (arcs_tail h)
theorem nextM_good (m : List S48) (hg : GoodM m) (i b : Int) : -1 ≤ nextM m i b ∧ nextM m i b < (m.length : Int) := by
  unfold nextM
  split
  · rename_i h
    obtain ⟨k, rfl⟩ := Int.eq_ofNat_of_zero_le h.1
    rw [Int.toNat_natCast]
    have hk : k < m.length := by omega
    rw [getD48 m k hk]
    exact nextA_good m.length b _ (hg.2 _ (List.getElem_mem hk))
  · omega

/-! The first ones. -/
section
variable {α : Type} [DecidableEq α]
theorem firsts_min (key : Nat → α) (n : Nat) : ∀ x ∈ firsts key n, ∀ b, b < x → key b ≠ key x := by
  induction n with
  | zero => intro x h; simp [firsts] at h
  | succ n ih =>
    intro x h b hb
    rw [firsts] at h
    split at h
    · exact ih x h b hb
    · rename_i hany
      rcases List.mem_append.1 h with h | h
      · exact ih x h b hb
      · simp only [List.mem_singleton] at h
        subst h
        intro e
        obtain ⟨y, hy, he⟩ := firsts_has key x b hb
        exact hany (List.any_eq_true.2 ⟨y, hy, by simp [he, e]⟩)
theorem firsts_apart (key : Nat → α) (n : Nat) : ∀ i j (hi : i < j) (hj : j < (firsts key n).length), key (firsts key n)[i] ≠ key (firsts key n)[j] := by
  induction n with
  | zero => intro i j hi hj; simp [firsts] at hj
  | succ n ih =>
    by_cases hany : (firsts key n).any (fun x => decide (key x = key n)) = true
    · have e : firsts key (n + 1) = firsts key n := by rw [firsts, if_pos hany]
      simp only [e]
      exact ih
    · have e : firsts key (n + 1) = firsts key n ++ [n] := by rw [firsts, if_neg hany]
      simp only [e]
      intro i j hi hj
      rw [List.length_append, List.length_singleton] at hj
      rw [List.getElem_append_left (by omega : i < (firsts key n).length)]
      rcases Nat.lt_or_ge j (firsts key n).length with hjl | hjl
      · rw [List.getElem_append_left hjl]; exact ih i j hi hjl
      · rw [List.getElem_append_right hjl]
        simp only [List.getElem_singleton]
        intro h
        exact hany (List.any_eq_true.2 ⟨_, List.getElem_mem (by omega : i < (firsts key n).length), by simp [h]⟩)
theorem findIdx_at {β : Type} (p : β → Bool) : ∀ (l : List β) (k : Nat) (hk : k < l.length), p l[k] = true → (∀ j (h : j < k), p (l[j]'(by omega)) = false) → l.findIdx p = k := by
  intro l
  induction l with
  | nil => intro k hk; simp at hk
  | cons x l ih =>
    intro k hk h1 h2
    rw [List.findIdx_cons]
    cases k with
    | zero => simp only [List.getElem_cons_zero] at h1; rw [h1]; rfl
    | succ k =>
      have h0 := h2 0 (by omega)
      simp only [List.getElem_cons_zero] at h0
      rw [h0]
      simp only [cond_false]
      rw [ih k (by simpa using hk) (by simpa using h1) (fun j hj => by simpa using h2 (j + 1) (by omega))]
theorem numK_first (key : Nat → α) (n k : Nat) (hk : k < (firsts key n).length) : numK key (firsts key n)[k] = k := by
  have hlt := firsts_lt key n _ (List.getElem_mem hk)
  rw [← numN_eq key n _ hlt]
  unfold numN
  exact findIdx_at _ _ k hk (by simp) (fun j hj => by simpa using firsts_apart key n j k hj hk)
theorem numK_lt (key : Nat → α) (n b : Nat) (h : b < n) : numK key b < (firsts key n).length := by
  rw [← numN_eq key n b h]; exact numN_lt key n b h
theorem numK_key (key : Nat → α) (n b : Nat) (h : b < n) : key ((firsts key n)[numK key b]'(numK_lt key n b h)) = key b := by
  have := numN_key key n b h
  simp only [numN_eq key n b h] at this
  exact this
theorem numK_least (key : Nat → α) (n k : Nat) (hk : k < (firsts key n).length) (b : Nat) (hb : b < (firsts key n)[k]) : numK key b ≠ k := by
  intro e
  have hlt := firsts_lt key n _ (List.getElem_mem hk)
  have h1 := numK_key key n b (by omega)
  simp only [e] at h1
  exact firsts_min key n _ (List.getElem_mem hk) b hb h1.symm
end
def Fm (m : List S48) : List Nat := firsts (sig m m.length) 256
theorem Fm_eq (m : List S48) : Fm m = firsts (sig m m.length) 256 := rfl
attribute [irreducible] Fm
theorem Fm_pos (m : List S48) : 0 < (Fm m).length := by rw [Fm_eq]; exact firsts_pos _ 256 (by omega)
theorem Fm_le (m : List S48) : (Fm m).length ≤ 256 := by rw [Fm_eq]; exact firsts_len _ 256
section
variable {α : Type} [DecidableEq α]
theorem first_lt (key : Nat → α) (n k : Nat) (hk : k < (firsts key n).length) : (firsts key n)[k] < n := firsts_lt key n _ (List.getElem_mem hk)
end
theorem Fm_lt (m : List S48) (k : Nat) (hk : k < (Fm m).length) : (Fm m)[k] < 256 := by
  simp only [Fm_eq] at hk ⊢; exact first_lt _ _ k hk
theorem Fm_num (m : List S48) (k : Nat) (hk : k < (Fm m).length) : numK (sig m m.length) (Fm m)[k] = k := by
  simp only [Fm_eq] at hk ⊢; exact numK_first _ _ k hk
theorem Fm_numlt (m : List S48) (b : Nat) (hb : b < 256) : numK (sig m m.length) b < (Fm m).length := by
  simp only [Fm_eq]; exact numK_lt _ _ b hb
theorem Fm_key (m : List S48) (b : Nat) (hb : b < 256) : sig m m.length ((Fm m)[numK (sig m m.length) b]'(Fm_numlt m b hb)) = sig m m.length b := by
  simp only [Fm_eq]; exact numK_key _ _ b hb
theorem Fm_least (m : List S48) (k : Nat) (hk : k < (Fm m).length) (b : Nat) (hb : b < (Fm m)[k]) : numK (sig m m.length) b ≠ k := by
  simp only [Fm_eq] at hk hb; exact numK_least _ _ k hk b hb
theorem Fm_apart (m : List S48) (i j : Nat) (hi : i < j) (hj : j < (Fm m).length) : sig m m.length (Fm m)[i] ≠ sig m m.length (Fm m)[j] := by
  simp only [Fm_eq] at hj ⊢; exact firsts_apart _ _ i j hi hj
theorem mostL_le (l : List Int) (N : Int) (h0 : 0 ≤ N) (h : ∀ x, x < 256 → l.getD x 0 ≤ N) : ∀ k, k ≤ 256 → mostL l k ≤ N := by
  intro k
  induction k with
  | zero => intro _; simpa [mostL] using h0
  | succ k ih =>
    intro hk
    rcases Nat.lt_or_ge k l.length with hl | hl
    · rw [mostL_succ l k hl]
      have := ih (by omega)
      have := h k (by omega)
      split <;> omega
    · have : mostL l (k + 1) = mostL l k := by unfold mostL; rw [List.take_of_length_le (by omega), List.take_of_length_le (by omega)]
      have := ih (by omega)
      omega
theorem most_cls (m : List S48) : mostL (cls m) 256 + 1 = ((Fm m).length : Int) := by
  have hp := Fm_pos m
  have hle : mostL (cls m) 256 ≤ ((Fm m).length : Int) - 1 := mostL_le (cls m) _ (by omega) (fun x hx => by
    rw [cls_at m x hx]
    have := Fm_numlt m x hx
    omega) 256 (Nat.le_refl _)
  have hk : (Fm m).length - 1 < (Fm m).length := by omega
  have hlt := Fm_lt m _ hk
  have hge := mostL_ge (cls m) 256 _ hlt (by rw [cls_len]; exact hlt)
  rw [cls_at m _ hlt, Fm_num m _ hk] at hge
  omega
theorem lowsL_len (m : List S48) : (lowsL (cls m)).length = (Fm m).length := by
  rw [lowsL, lowsD_len, most_cls]; omega
theorem lowsD_at (l : List Int) (k x : Nat) (hx : x < 256) (hk : k < (mostL l 256 + 1).toNat) (h1 : l.getD x 0 = (k : Int)) (h2 : ∀ b, b < x → l.getD b 0 ≠ (k : Int)) (hn : ∀ b, b < 256 → 0 ≤ l.getD b 0) :
    ∀ d, d ≤ x → (lowsD l (x - d)).getD k 0 = (x : Int) := by
  intro d
  induction d with
  | zero =>
    intro _
    rw [Nat.sub_zero, lowsD_step l x hx, h1, Int.toNat_natCast, List.getD_eq_getElem?_getD, List.getElem?_set_self (by rw [lowsD_len]; exact hk)]
    rfl
  | succ d ih =>
    intro hd
    have hI := ih (by omega)
    have hne := h2 (x - (d + 1)) (by omega)
    have hpos := hn (x - (d + 1)) (by omega)
    rw [lowsD_step l (x - (d + 1)) (by omega), List.getD_eq_getElem?_getD, List.getElem?_set_ne (by omega), show x - (d + 1) + 1 = x - d from by omega, ← List.getD_eq_getElem?_getD]
    exact hI
theorem lows_at (m : List S48) (k : Nat) (hk : k < (Fm m).length) : (lowsL (cls m)).getD k 0 = ((Fm m)[k] : Int) := by
  have hlt := Fm_lt m k hk
  have hnum := Fm_num m k hk
  have hle := Fm_least m k hk
  generalize (Fm m)[k] = x at *
  have h := lowsD_at (cls m) k x hlt (by rw [most_cls]; omega) (by rw [cls_at m _ hlt, hnum])
    (fun b hb => by rw [cls_at m b (by omega)]; have := hle b hb; omega)
    (fun b hb => by rw [cls_at m b hb]; omega) x (Nat.le_refl _)
  rw [Nat.sub_self] at h
  exact h
theorem sig_at (m : List S48) (k i b : Nat) (hi : i < k) : (sig m k b).getD i 0 = nextM m (i : Int) (b : Int) := by
  unfold sig
  rw [List.getD_eq_getElem?_getD, List.getElem?_map, List.getElem?_range hi]; rfl
theorem nextM_out (m : List S48) (i b : Int) (h : ¬ (0 ≤ i ∧ i < (m.length : Int))) : nextM m i b = -1 := by unfold nextM; rw [if_neg h]
/-- The lowest byte of a byte's class leads where it leads. -/
theorem nextM_low (m : List S48) (i : Int) (b : Nat) (hb : b < 256) : nextM m i ((lowsL (cls m)).getD ((cls m).getD b 0).toNat 0) = nextM m i (b : Int) := by
  rw [cls_at m b hb, Int.toNat_natCast]
  have hk := Fm_numlt m b hb
  rw [lows_at m _ hk]
  by_cases h : 0 ≤ i ∧ i < (m.length : Int)
  · obtain ⟨j, rfl⟩ := Int.eq_ofNat_of_zero_le h.1
    rw [← sig_at m m.length j _ (by omega), ← sig_at m m.length j b (by omega)]
    rw [Fm_key m b hb]
  · rw [nextM_out m i _ h, nextM_out m i _ h]
theorem tab_len (m : List S48) : (tabM m).length = m.length := by rw [tabM, List.length_map, List.length_range]
theorem tab_row (m : List S48) (i : Nat) (hi : i < m.length) : (tabM m).getD i [] = rowM m i := by
  rw [tabM, List.getD_eq_getElem?_getD, List.getElem?_map, List.getElem?_range hi]; simp only [Option.map_some, Option.getD_some]
theorem row_len (m : List S48) (i : Nat) : (rowM m i).length = (Fm m).length := by rw [rowM, List.length_map, lowsL_len]
theorem row_at (m : List S48) (i k : Nat) (hk : k < (Fm m).length) : (rowM m i).getD k 0 = nextM m (i : Int) ((lowsL (cls m)).getD k 0) := by
  have h : k < (lowsL (cls m)).length := by rw [lowsL_len]; exact hk
  rw [rowM, List.getD_eq_getElem?_getD, List.getElem?_map, List.getD_eq_getElem?_getD, List.getElem?_eq_getElem h]; rfl
theorem entry_next (m : List S48) (hg : GoodM m) (i : Int) (b : Nat) (hb : b < 256) : entryM (cls m) (tabM m) i b = nextM m i (b : Int) := by
  unfold entryM
  rw [tab_len]
  by_cases h : 0 ≤ i ∧ i < (m.length : Int)
  · obtain ⟨j, rfl⟩ := Int.eq_ofNat_of_zero_le h.1
    rw [if_pos h, Int.toNat_natCast, tab_row m j (by omega), row_len]
    have hk := Fm_numlt m b hb
    have hc := cls_at m b hb
    have hlo := nextM_low m (j : Int) b hb
    rw [hc, Int.toNat_natCast] at hlo ⊢
    rw [if_pos (show ((numK (sig m m.length) b : Nat) : Int) < ((Fm m).length : Int) by omega), row_at m j _ hk, hlo, if_neg (by have := (nextM_good m hg (j : Int) (b : Int)).1; omega)]
  · rw [if_neg h, nextM_out m i _ h]
/-- The machine of a machine's classes and table is it. -/
theorem back_round (m : List S48) (hg : GoodM m) (hb : ∀ s ∈ m, Byt s.f1) : backM (cls m) (tabM m) (m.map S48.f0) = m := by
  apply List.ext_getElem
  · rw [backM, List.length_map, List.length_range, tab_len]
  · intro i h1 h2
    simp only [backM, List.getElem_map, List.getElem_range]
    unfold stM
    have e1 : (m.map S48.f0).getD i 0 = m[i].f0 := by
      rw [List.getD_eq_getElem?_getD, List.getElem?_map, List.getElem?_eq_getElem h2]; rfl
    have e2 : rarcs (toM (cls m) (tabM m) i) 256 = m[i].f1 := by
      refine rarcs_whole m.length m[i].f1 (hg.2 _ (List.getElem_mem h2)) (hb _ (List.getElem_mem h2)) _ (fun b hb2 => ?_)
      rw [toM_get _ _ _ _ hb2]
      unfold gM
      rw [entry_next m hg (i : Int) b hb2, tab_len, if_neg (by have := (nextM_good m hg (i : Int) (b : Int)).2; omega)]
      unfold nextM
      rw [if_pos (by omega), Int.toNat_natCast, getD48 m i h2]
    rw [e1, e2]
theorem foldl_congr_mem {σ β : Type} (f g : σ → β → σ) : ∀ (l : List β) (a : σ), (∀ x b, b ∈ l → f x b = g x b) → l.foldl f a = l.foldl g a := by
  intro l
  induction l with
  | nil => intro a _; rfl
  | cons b l ih => intro a h; rw [List.foldl_cons, List.foldl_cons, h a b (by simp)]; exact ih _ (fun x c hc => h x c (by simp [hc]))
/-- The table goes where the machine goes. -/
theorem run_round (m : List S48) (hg : GoodM m) (s : ByteArray) : runT (cls m) (tabM m) s = runM m s := by
  unfold runT runM runE runF
  rw [tab_len, List.drop_zero]
  by_cases h : m.length = 0
  · rw [if_pos h, if_pos h]
    have : ∀ l : List UInt8, l.foldl (fun x b => nextM m x (b.toNat : Int)) (-1) = -1 := by
      intro l
      induction l with
      | nil => rfl
      | cons b l ih => rw [List.foldl_cons, nextM_out m _ _ (by omega)]; exact ih
    exact (this _).symm
  · rw [if_neg h, if_neg h]
    exact foldl_congr_mem _ _ _ _ (fun x b _ => entry_next m hg x b.toNat b.toNat_lt)
/-- No two classes are alike. -/
theorem rows_apart (m : List S48) (a b : Nat) (ha : a < (Fm m).length) (hb : b < a) : ∃ i, i < m.length ∧ (rowM m i).getD a 0 ≠ (rowM m i).getD b 0 := by
  apply Classical.byContradiction
  intro hno
  have h : ∀ i, i < m.length → (rowM m i).getD b 0 = (rowM m i).getD a 0 := fun i hi => by
    apply Classical.byContradiction
    intro hne
    exact hno ⟨i, hi, fun e => hne e.symm⟩
  refine Fm_apart m b a hb ha ?_
  apply List.ext_getElem
  · simp [sig]
  · intro i h1 h2
    have hi : i < m.length := by simpa [sig] using h1
    have h3 := h i hi
    rw [row_at m i b (by omega), row_at m i a ha, lows_at m b (by omega), lows_at m a ha] at h3
    have g1 := sig_at m m.length i (Fm m)[b] hi
    have g2 := sig_at m m.length i (Fm m)[a] hi
    rw [h3, ← g2] at g1
    rw [List.getD_eq_getElem?_getD, List.getD_eq_getElem?_getD, List.getElem?_eq_getElem (by exact h1), List.getElem?_eq_getElem (by exact h2)] at g1
    exact g1

/-! Few classes. -/
def arcsN (m : List S48) : Nat := (m.map fun s => s.f1.length).sum
def endsL (m : List S48) : List Int := m.flatMap fun s => s.f1.flatMap fun a => [a.f0, a.f1 + 1]
theorem ends_len1 (l : List S50) : (l.flatMap fun a => [a.f0, a.f1 + 1]).length = 2 * l.length := by
  induction l with
  | nil => rfl
  | cons a l ih => rw [List.flatMap_cons, List.length_append, ih]; simp only [List.length_cons, List.length_nil]; omega
theorem ends_lenM (m : List S48) : (endsL m).length = 2 * arcsN m := by
  unfold endsL arcsN
  induction m with
  | nil => rfl
  | cons s m ih => rw [List.flatMap_cons, List.length_append, ih, ends_len1, List.map_cons, List.sum_cons]; omega
theorem nextA_turn (b : Int) : ∀ l : List S50, nextA l b ≠ nextA l (b + 1) → ∃ a ∈ l, a.f0 = b + 1 ∨ a.f1 = b := by
  intro l
  induction l with
  | nil => intro h; exact absurd rfl h
  | cons a l ih =>
    intro h
    rw [nextA_cons, nextA_cons] at h
    by_cases h1 : a.f0 ≤ b ∧ b ≤ a.f1
    · by_cases h2 : a.f0 ≤ b + 1 ∧ b + 1 ≤ a.f1
      · rw [if_pos h1, if_pos h2] at h; exact absurd rfl h
      · exact ⟨a, by simp, .inr (by omega)⟩
    · by_cases h2 : a.f0 ≤ b + 1 ∧ b + 1 ≤ a.f1
      · exact ⟨a, by simp, .inl (by omega)⟩
      · rw [if_neg h1, if_neg h2] at h
        obtain ⟨c, hc, h3⟩ := ih h
        exact ⟨c, by simp [hc], h3⟩
theorem sig_turn (m : List S48) (b : Nat) (h : sig m m.length b ≠ sig m m.length (b + 1)) : ((b + 1 : Nat) : Int) ∈ endsL m := by
  have h1 : ∃ i, i < m.length ∧ nextM m (i : Int) (b : Int) ≠ nextM m (i : Int) ((b + 1 : Nat) : Int) := by
    apply Classical.byContradiction
    intro hno
    apply h
    unfold sig
    refine List.map_congr_left (fun i hi => ?_)
    apply Classical.byContradiction
    intro hne
    exact hno ⟨i, List.mem_range.1 hi, hne⟩
  obtain ⟨i, hi, hne⟩ := h1
  unfold nextM at hne
  rw [if_pos (by omega), if_pos (by omega), Int.toNat_natCast, getD48 m i hi] at hne
  obtain ⟨a, ha, h2⟩ := nextA_turn (b : Int) _ hne
  refine List.mem_flatMap.2 ⟨m[i], List.getElem_mem hi, List.mem_flatMap.2 ⟨a, ha, ?_⟩⟩
  simp only [List.mem_cons, List.not_mem_nil, or_false]
  omega
theorem countP_step (E : List Int) (n : Int) : E.countP (fun e => decide (e < n)) + (if n ∈ E then 1 else 0) ≤ E.countP (fun e => decide (e < n + 1)) := by
  induction E with
  | nil => simp
  | cons e E ih =>
    rw [List.countP_cons, List.countP_cons]
    by_cases h1 : e < n
    · have h2 : e < n + 1 := by omega
      have h3 : n ∈ e :: E ↔ n ∈ E := by simp; omega
      simp only [h1, h2, h3, decide_true, if_true]
      omega
    · by_cases h2 : e = n
      · subst h2
        have h4 : e < e + 1 := by omega
        have h5 : ¬ e < e := by omega
        simp only [h4, h5, decide_true, decide_false, if_true, List.mem_cons, true_or, Bool.false_eq_true, if_false]
        split at ih <;> omega
      · have h2' : ¬ e < n + 1 := by omega
        have h3 : n ∈ e :: E ↔ n ∈ E := by simp; omega
        simp only [h1, h2', h3, decide_false]
        omega
theorem few_n (m : List S48) (n : Nat) : (firsts (sig m m.length) (n + 1)).length ≤ 1 + (endsL m).countP (fun e => decide (e < ((n + 1 : Nat) : Int))) := by
  induction n with
  | zero => simp [firsts]
  | succ n ih =>
    have hs := countP_step (endsL m) ((n + 1 : Nat) : Int)
    rw [show ((n + 1 : Nat) : Int) + 1 = ((n + 1 + 1 : Nat) : Int) by omega] at hs
    rw [firsts]
    by_cases he : sig m m.length n = sig m m.length (n + 1)
    · obtain ⟨x, hx, hk⟩ := firsts_has (sig m m.length) (n + 1) n (by omega)
      rw [if_pos (List.any_eq_true.2 ⟨x, hx, by simp [hk, he]⟩)]
      omega
    · rw [if_pos (sig_turn m n he)] at hs
      split
      · omega
      · rw [List.length_append, List.length_singleton]; omega
theorem few_arcs (m : List S48) : (Fm m).length ≤ 2 * arcsN m + 1 := by
  have h := few_n m 255
  have h2 : (endsL m).countP (fun e => decide (e < ((255 + 1 : Nat) : Int))) ≤ (endsL m).length := List.countP_le_length
  rw [ends_lenM] at h2
  rw [Fm_eq]
  show (firsts (sig m m.length) (255 + 1)).length ≤ _
  omega
/-- A right row of arcs has no more arcs than there are bytes. -/
theorem good_len (n : Nat) : ∀ (l : List S50) (lo : Int) (pv : Option Int), lo ≤ 256 → GoodFrom n lo pv l → (l.length : Int) ≤ 256 - lo := by
  intro l
  induction l with
  | nil => intro lo _ h _; simp; omega
  | cons a l ih =>
    intro lo pv h hg
    obtain ⟨h1, h2, h3, _, _, _, h7⟩ := hg
    have := ih (a.f1 + 1) _ (by omega) h7
    rw [List.length_cons]; omega
theorem arcs_le (n : Nat) (l : List S50) (h : ArcsFrom n l 0) (hb : Byt l) : l.length ≤ 256 := by
  have := good_len n l 0 none (by omega) (good_of n l 0 none h hb (fun a r hl => ⟨(hb a (by rw [hl]; simp)).1.1, fun _ => by simp⟩))
  omega
/-- A text, each byte turned into the lowest of its class. -/
theorem run_low (m : List S48) (s t : ByteArray) (h : t.data.toList.map (fun c => (c.toNat : Int)) = s.data.toList.map (fun c => (lowsL (cls m)).getD ((cls m).getD c.toNat 0).toNat 0)) : runM m t = runM m s := by
  unfold runM runF
  rw [List.drop_zero, List.drop_zero]
  have e : ∀ (l : List UInt8) (a : Int), l.foldl (fun x b => nextM m x (b.toNat : Int)) a = (l.map (fun c => (c.toNat : Int))).foldl (fun x b => nextM m x b) a := fun l a => by rw [List.foldl_map]
  rw [e, h, List.foldl_map]
  exact foldl_congr_mem _ _ _ _ (fun x b _ => nextM_low m x b.toNat b.toNat_lt)
end Go.Proofs.Ytbhdpamepmkaiaa
