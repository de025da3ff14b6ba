/- Patterns turned, and patterns of nothing: plainly. Own text. -/
import Derived.Test.YtimhiacjoplkeaaMkA
import Derived.Test.YtimhiacjoplkeaaPla
namespace Go.Proofs.Ytimhiacjoplkeaa
set_option linter.unusedVariables false
set_option linter.unusedSimpArgs false
set_option linter.unusedSectionVars false
mutual
/-- A pattern, turned. -/
def bk : Nd → Nd
  | .mk op s0 s1 s2 s3 mn mx kids => .mk op s0 s1 s2 s3 mn mx (if op = 1 then (bks kids).reverse else bks kids)
def bks : List Nd → List Nd
  | [] => []
  | k :: ks => bk k :: bks ks
end
theorem bks_map : ∀ ks : List Nd, bks ks = ks.map bk
  | [] => by unfold bks; rfl
  | k :: ks => by unfold bks; rw [bks_map ks]; rfl
/-- What a pattern does in a text is what the turned one does in the turned text. -/
def Mir (s r : ByteArray) (n : Nd) : Prop := ∀ i j, i ≤ s.size → j ≤ s.size → stp s n (dlt i) j = stp r (bk n) (dlt (s.size - j)) (s.size - i)
section
variable {s r : ByteArray} (hr : r.size = s.size)
include hr
theorem mir_path {f g : (Nat → Bool) → Nat → Bool} {f' g' : (Nat → Bool) → Nat → Bool} (hf : Lin s.size f) (hg : Lin s.size g) (hf' : Lin s.size f') (hg' : Lin s.size g')
    (h1 : ∀ i j, i ≤ s.size → j ≤ s.size → f (dlt i) j = f' (dlt (s.size - j)) (s.size - i)) (h2 : ∀ i j, i ≤ s.size → j ≤ s.size → g (dlt i) j = g' (dlt (s.size - j)) (s.size - i))
    (i j : Nat) (hi : i ≤ s.size) (hj : j ≤ s.size) : g (f (dlt i)) j = f' (g' (dlt (s.size - j))) (s.size - i) := by
  apply bool_ext
  rw [hg.add, hf'.add]
  constructor
  · rintro ⟨m, a, b⟩
    have hm := (hf.le i m a).2 hi
    exact ⟨s.size - m, by rw [← h2 m j hm hj]; exact b, by rw [← h1 i m hi hm]; exact a⟩
  · rintro ⟨m, a, b⟩
    have hm := (hg'.le (s.size - j) m a).2 (by omega)
    have e : s.size - (s.size - m) = m := by omega
    exact ⟨s.size - m, by rw [h1 i (s.size - m) hi (by omega), e]; exact b, by rw [h2 (s.size - m) j (by omega) hj, e]; exact a⟩
theorem stpC_append (t : ByteArray) : ∀ (xs ys : List Nd) (P : Nat → Bool), stpC t (xs ++ ys) P = stpC t ys (stpC t xs P)
  | [], ys, P => by rw [List.nil_append]; conv => rhs; arg 3; unfold stpC
  | x :: xs, ys, P => by
    rw [List.cons_append]
    conv => lhs; unfold stpC
    conv => rhs; arg 3; unfold stpC
    exact stpC_append t xs ys _
theorem stpC_one (t : ByteArray) (k : Nd) : stpC t [k] = stp t k := by unfold stpC stpC; rfl
theorem lin' (n : Nd) : Lin s.size (stp r n) := hr ▸ stp_lin r n
theorem mir_dlt (i j : Nat) (hi : i ≤ s.size) (hj : j ≤ s.size) : dlt i j = dlt (s.size - j) (s.size - i) := by
  apply bool_ext; rw [dlt_iff, dlt_iff]; omega
theorem mir_C : ∀ ks : List Nd, (∀ k ∈ ks, Mir s r k) → ∀ i j, i ≤ s.size → j ≤ s.size → stpC s ks (dlt i) j = stpC r (bks ks).reverse (dlt (s.size - j)) (s.size - i)
  | [], _, i, j, hi, hj => by unfold bks; unfold stpC; exact mir_dlt hr i j hi hj
  | k :: ks, h, i, j, hi, hj => by
    have ih := mir_C ks (fun x hx => h x (List.mem_cons_of_mem _ hx))
    have hk := h k List.mem_cons_self
    conv => rhs; unfold bks
    rw [List.reverse_cons, stpC_append hr, stpC_one hr]
    conv => lhs; unfold stpC
    exact mir_path hr (stp_lin s k) (stpC_lin s ks) (lin' hr (bk k)) (hr ▸ stpC_lin r (bks ks).reverse) hk ih i j hi hj
theorem mir_A : ∀ ks : List Nd, (∀ k ∈ ks, Mir s r k) → ∀ i j, i ≤ s.size → j ≤ s.size → stpA s ks (dlt i) j = stpA r (bks ks) (dlt (s.size - j)) (s.size - i)
  | [], _, i, j, hi, hj => by unfold bks; unfold stpA; rfl
  | k :: ks, h, i, j, hi, hj => by
    unfold bks; unfold stpA
    rw [h k List.mem_cons_self i j hi hj, mir_A ks (fun x hx => h x (List.mem_cons_of_mem _ hx)) i j hi hj]
theorem mir_X (neg : Bool) : ∀ ks : List Nd, (∀ k ∈ ks, Mir s r k) → ∀ i j, i ≤ s.size → j ≤ s.size → stpX s neg ks i j = stpX r neg (bks ks) (s.size - j) (s.size - i)
  | [], _, i, j, hi, hj => by unfold bks; unfold stpX; rfl
  | k :: ks, h, i, j, hi, hj => by
    unfold bks; unfold stpX
    rw [h k List.mem_cons_self i j hi hj, mir_X neg ks (fun x hx => h x (List.mem_cons_of_mem _ hx)) i j hi hj]
theorem mir_I {k : Nd} (h : Mir s r k) : ∀ t i j, i ≤ s.size → j ≤ s.size → itr (stp s k) t (dlt i) j = itr (stp r (bk k)) t (dlt (s.size - j)) (s.size - i)
  | 0, i, j, hi, hj => mir_dlt hr i j hi hj
  | t + 1, i, j, hi, hj => by
    rw [itr_succ (stp r (bk k))]
    show itr (stp s k) t (stp s k (dlt i)) j = _
    exact mir_path hr (stp_lin s k) ((stp_lin s k).itr t) (lin' hr (bk k)) ((lin' hr (bk k)).itr t) h (mir_I h t) i j hi hj
theorem itr_add (f : (Nat → Bool) → Nat → Bool) : ∀ (a u : Nat) (P : Nat → Bool), itr f u (itr f a P) = itr f (a + u) P
  | 0, u, P => by rw [Nat.zero_add]; rfl
  | a + 1, u, P => by
    rw [show a + 1 + u = (a + u) + 1 by omega]
    show itr f u (itr f a (f P)) = itr f (a + u) (f P)
    exact itr_add f a u (f P)
theorem mir_R (mn mx : Int) : ∀ ks : List Nd, (∀ k ∈ ks, Mir s r k) → ∀ i j, i ≤ s.size → j ≤ s.size → stpR s mn mx ks (dlt i) j = stpR r mn mx (bks ks) (dlt (s.size - j)) (s.size - i)
  | [], _, i, j, hi, hj => by unfold bks; unfold stpR; exact mir_dlt hr i j hi hj
  | k :: ks, h, i, j, hi, hj => by
    unfold bks; unfold stpR
    have hI := mir_I hr (h k List.mem_cons_self)
    apply bool_ext
    rw [upTo_iff, upTo_iff, hr]
    constructor
    · rintro ⟨u, hu, e⟩
      rw [itr_add hr] at e
      exact ⟨u, hu, by rw [itr_add hr, ← hI _ i j hi hj]; exact e⟩
    · rintro ⟨u, hu, e⟩
      rw [itr_add hr] at e
      exact ⟨u, hu, by rw [itr_add hr, hI _ i j hi hj]; exact e⟩
theorem mir_mk (hb : ∀ i, i < s.size → byteN r i = byteN s (s.size - 1 - i)) (op s0 s1 s2 s3 mn mx : Int) (ks : List Nd) (h : ∀ k ∈ ks, Mir s r k) : Mir s r (.mk op s0 s1 s2 s3 mn mx ks) := by
  intro i j hi hj
  unfold bk
  by_cases h1 : op = 1
  · subst h1
    rw [if_pos rfl, stp_op1, stp_op1]
    exact mir_C hr ks h i j hi hj
  · rw [if_neg h1]
    by_cases h2 : op = 2
    · subst h2; rw [stp_op2, stp_op2]; exact mir_A hr ks h i j hi hj
    · by_cases h3 : op = 3
      · subst h3; rw [stp_op3, stp_op3]; exact mir_R hr mn mx ks h i j hi hj
      · by_cases h0 : op = 0
        · unfold stp
          simp only [if_pos h0]
          apply bool_ext
          simp only [Bool.and_eq_true, decide_eq_true_eq, dlt_iff]
          rw [hr]
          constructor
          · rintro ⟨⟨⟨a, b⟩, c⟩, d⟩
            refine ⟨⟨⟨by omega, by omega⟩, by omega⟩, ?_⟩
            rw [hb (s.size - i - 1) (by omega), show s.size - 1 - (s.size - i - 1) = j - 1 by omega]; exact d
          · rintro ⟨⟨⟨a, b⟩, c⟩, d⟩
            refine ⟨⟨⟨by omega, by omega⟩, by omega⟩, ?_⟩
            rw [hb (s.size - i - 1) (by omega), show s.size - 1 - (s.size - i - 1) = j - 1 by omega] at d; exact d
        · unfold stp
          simp only [if_neg h0, if_neg h1, if_neg h2, if_neg h3]
          rw [any_dlt i j (fun a => decide (j ≤ s.size) && stpX s (decide (op = 5)) ks a j), any_dlt (s.size - j) (s.size - i) (fun a => decide (s.size - i ≤ r.size) && stpX r (decide (op = 5)) (bks ks) a (s.size - i)), mir_X hr _ ks h i j hi hj]
          have e1 : decide (i ≤ j) = decide (s.size - j ≤ s.size - i) := by rw [decide_eq_decide]; omega
          have e2 : decide (j ≤ s.size) = decide (s.size - i ≤ r.size) := by rw [decide_eq_decide]; omega
          rw [e1, e2]
end
mutual
theorem mir_n {s r : ByteArray} (hr : r.size = s.size) (hb : ∀ i, i < s.size → byteN r i = byteN s (s.size - 1 - i)) : ∀ n : Nd, Mir s r n
  | .mk op s0 s1 s2 s3 mn mx ks => mir_mk hr hb op s0 s1 s2 s3 mn mx ks (mir_s hr hb ks)
theorem mir_s {s r : ByteArray} (hr : r.size = s.size) (hb : ∀ i, i < s.size → byteN r i = byteN s (s.size - 1 - i)) : ∀ ks : List Nd, ∀ k ∈ ks, Mir s r k
  | [], _, h => by cases h
  | k :: ks, x, h => by
    rcases List.mem_cons.1 h with e | h
    · exact e ▸ mir_n hr hb k
    · exact mir_s hr hb ks x h
end
/-- The turned pattern matches the turned text, just where the pattern matches the text. -/
theorem whole_back {s r : ByteArray} (hr : r.size = s.size) (hb : ∀ i, i < s.size → byteN r i = byteN s (s.size - 1 - i)) (n : Nd) : wholeP s n = wholeP r (bk n) := by
  rw [wholeP_eq, wholeP_eq, mir_n hr hb n 0 s.size (Nat.zero_le _) (Nat.le_refl _), hr, Nat.sub_self, Nat.sub_zero]
mutual
/-- Does a pattern match the empty text? -/
def nul : Nd → Bool
  | .mk op _ _ _ _ mn _ kids => if op = 1 ∨ op = 4 then nulA kids else if op = 2 then nulO kids else if op = 3 then decide (mn = 0) || nulO kids else if op = 5 then !nulO kids else false
def nulA : List Nd → Bool
  | [] => true
  | k :: ks => nul k && nulA ks
def nulO : List Nd → Bool
  | [] => false
  | k :: ks => nul k || nulO ks
end
theorem nulA_all : ∀ ks : List Nd, nulA ks = ks.all nul
  | [] => by unfold nulA; rfl
  | k :: ks => by unfold nulA; rw [nulA_all ks]; rfl
theorem nulO_any : ∀ ks : List Nd, nulO ks = ks.any nul
  | [] => by unfold nulO; rfl
  | k :: ks => by unfold nulO; rw [nulO_any ks]; rfl
def NulOk (e : ByteArray) (n : Nd) : Prop := stp e n (dlt 0) 0 = nul n
section
variable {e : ByteArray} (he : e.size = 0)
include he
theorem nul_only {f : (Nat → Bool) → Nat → Bool} {g : (Nat → Bool) → Nat → Bool} (hf : Lin 0 f) (hg : Lin 0 g) : g (f (dlt 0)) 0 = (f (dlt 0) 0 && g (dlt 0) 0) := by
  apply bool_ext
  rw [hg.add, Bool.and_eq_true]
  constructor
  · rintro ⟨m, a, b⟩
    have := (hf.le 0 m a).2 (Nat.le_refl 0)
    obtain rfl : m = 0 := by omega
    exact ⟨a, b⟩
  · rintro ⟨a, b⟩
    exact ⟨0, a, b⟩
theorem nul_C : ∀ ks : List Nd, (∀ k ∈ ks, NulOk e k) → stpC e ks (dlt 0) 0 = nulA ks
  | [], _ => by unfold stpC nulA; rfl
  | k :: ks, h => by
    have h1 := stp_lin e k
    have h2 := stpC_lin e ks
    rw [he] at h1 h2
    unfold stpC nulA
    rw [nul_only he h1 h2, h k List.mem_cons_self, nul_C ks (fun x hx => h x (List.mem_cons_of_mem _ hx))]
theorem nul_A : ∀ ks : List Nd, (∀ k ∈ ks, NulOk e k) → stpA e ks (dlt 0) 0 = nulO ks
  | [], _ => by unfold stpA nulO; rfl
  | k :: ks, h => by
    unfold stpA nulO
    rw [h k List.mem_cons_self, nul_A ks (fun x hx => h x (List.mem_cons_of_mem _ hx))]
theorem nul_X : ∀ ks : List Nd, (∀ k ∈ ks, NulOk e k) → stpX e false ks 0 0 = nulA ks
  | [], _ => by unfold stpX nulA; rfl
  | k :: ks, h => by
    unfold stpX nulA
    rw [h k List.mem_cons_self, nul_X ks (fun x hx => h x (List.mem_cons_of_mem _ hx)), Bool.bne_false]
theorem nul_I {k : Nd} (h : NulOk e k) : ∀ t, itr (stp e k) (t + 1) (dlt 0) 0 = nul k
  | 0 => h
  | t + 1 => by
    have h1 := stp_lin e k
    rw [he] at h1
    show itr (stp e k) (t + 1) (stp e k (dlt 0)) 0 = _
    rw [nul_only he h1 (h1.itr (t + 1)), nul_I h t, h, Bool.and_self]
theorem nul_mk (op s0 s1 s2 s3 mn mx : Int) (ks : List Nd) (hG : Gd (.mk op s0 s1 s2 s3 mn mx ks)) (h : ∀ k ∈ ks, NulOk e k) : NulOk e (.mk op s0 s1 s2 s3 mn mx ks) := by
  obtain ⟨ho, hm, _, _, _⟩ := (Gd_mk _ _ _ _ _ _ _ _).1 hG
  unfold NulOk
  rcases ho with ⟨rfl, rfl⟩ | rfl | rfl | ⟨rfl, hl⟩ | rfl | ⟨rfl, hl⟩
  · unfold stp nul; simp
  · rw [stp_op1, nul_C he ks h]; unfold nul; simp
  · rw [stp_op2, nul_A he ks h]; unfold nul; simp
  · obtain ⟨k, rfl⟩ : ∃ k, ks = [k] := by
      match ks, hl with
      | [k], _ => exact ⟨k, rfl⟩
    have hk := h k List.mem_cons_self
    rw [stp_op3]
    unfold stpR nul
    simp only [nulO_any, List.any_cons, List.any_nil, Bool.or_false]
    rw [if_neg (show ¬ ((3 : Int) = 1 ∨ (3 : Int) = 4) by omega), if_neg (show ¬ ((3 : Int) = 2) by omega), if_pos trivial]
    apply bool_ext
    rw [upTo_iff, Bool.or_eq_true, decide_eq_true_iff]
    constructor
    · rintro ⟨u, hu, e1⟩
      rw [itr_add (s := e) (r := e) rfl] at e1
      by_cases h0 : mn = 0
      · exact .inl h0
      · right
        obtain ⟨c, hc⟩ : ∃ c, mn.toNat + u = c + 1 := ⟨mn.toNat + u - 1, by omega⟩
        rw [hc, nul_I he hk c] at e1
        exact e1
    · intro h1
      refine ⟨0, Nat.zero_le _, ?_⟩
      show itr (stp e k) mn.toNat (dlt 0) 0 = true
      by_cases h0 : mn = 0
      · subst h0; rfl
      · obtain ⟨c, hc⟩ : ∃ c, mn.toNat = c + 1 := ⟨mn.toNat - 1, by omega⟩
        rw [hc, nul_I he hk c]
        exact h1.resolve_left h0
  · rw [stp_op4, nul_X he ks h]; unfold nul; simp
  · obtain ⟨k, rfl⟩ : ∃ k, ks = [k] := by
      match ks, hl with
      | [k], _ => exact ⟨k, rfl⟩
    have hk := h k List.mem_cons_self
    rw [stp_op5]
    unfold stpX stpX nul
    rw [hk]
    simp [nulO_any]
end
mutual
theorem nul_n {e : ByteArray} (he : e.size = 0) : ∀ n : Nd, Gd n → NulOk e n
  | .mk op s0 s1 s2 s3 mn mx ks, hG => nul_mk he op s0 s1 s2 s3 mn mx ks hG (nul_s he ks ((Gd_mk _ _ _ _ _ _ _ _).1 hG).2.2.2.2)
theorem nul_s {e : ByteArray} (he : e.size = 0) : ∀ ks : List Nd, (∀ k ∈ ks, Gd k) → ∀ k ∈ ks, NulOk e k
  | [], _, _, h => by cases h
  | k :: ks, hG, x, h => by
    rcases List.mem_cons.1 h with e' | h
    · exact e' ▸ nul_n he k (hG k List.mem_cons_self)
    · exact nul_s he ks (fun y hy => hG y (List.mem_cons_of_mem _ hy)) x h
end
theorem whole_null {e : ByteArray} (he : e.size = 0) (n : Nd) (hG : Gd n) : wholeP e n = nul n := by
  rw [wholeP_eq, he]; exact nul_n he n hG
theorem wf_bks : ∀ ks : List Nd, (∀ k ∈ ks, Wf (bk k)) → ∀ k ∈ bks ks, Wf k := fun ks h k hk => by
  rw [bks_map] at hk
  obtain ⟨x, hx, rfl⟩ := List.mem_map.1 hk
  exact h x hx
end Go.Proofs.Ytimhiacjoplkeaa
