/- Words for the reference's Make. Own text (printed by wip/c04/gen_mke.py). -/
import Derived.Test.YtimhiacjoplkeaaMak
import Derived.Test.YtimhiacjoplkeaaApt
import Derived.Lib.Strings
namespace Go.Proofs.Ytimhiacjoplkeaa
open Go.RowKit Go.Proofs.Ytimhiacjoplkeaa.P Go.Proofs.YtimhiacjoplkeaaW.PrintWords Go.Proofs.YtimhiacjoplkeaaW.PrintLast
set_option linter.unusedVariables false
set_option linter.unusedSimpArgs false
def U64 (x : Int) : Prop := 0 ≤ x ∧ x < 18446744073709551616
mutual
/-- A pattern as Make makes it. -/
def Gd : Nd → Prop
  | .mk op s0 s1 s2 s3 mn mx kids => ((op = 0 ∧ kids = []) ∨ op = 1 ∨ op = 2 ∨ (op = 3 ∧ kids.length = 1) ∨ op = 4 ∨ (op = 5 ∧ kids.length = 1)) ∧ (0 ≤ mn ∧ mn ≤ 2) ∧ (-1 ≤ mx ∧ mx ≤ 4) ∧ (U64 s0 ∧ U64 s1 ∧ U64 s2 ∧ U64 s3) ∧ Gds kids
def Gds : List Nd → Prop
  | [] => True
  | k :: ks => Gd k ∧ Gds ks
end
theorem Gds_iff : ∀ ks : List Nd, Gds ks ↔ ∀ k ∈ ks, Gd k
  | [] => by unfold Gds; simp
  | k :: ks => by unfold Gds; rw [Gds_iff ks]; simp
theorem Gd_mk (op s0 s1 s2 s3 mn mx : Int) (kids : List Nd) : Gd (.mk op s0 s1 s2 s3 mn mx kids) ↔ ((op = 0 ∧ kids = []) ∨ op = 1 ∨ op = 2 ∨ (op = 3 ∧ kids.length = 1) ∨ op = 4 ∨ (op = 5 ∧ kids.length = 1)) ∧ (0 ≤ mn ∧ mn ≤ 2) ∧ (-1 ≤ mx ∧ mx ≤ 4) ∧ (U64 s0 ∧ U64 s1 ∧ U64 s2 ∧ U64 s3) ∧ ∀ k ∈ kids, Gd k := by
  conv => lhs; unfold Gd
  rw [Gds_iff]
mutual
theorem wf_of_gd : ∀ n : Nd, Gd n → Wf n
  | .mk op s0 s1 s2 s3 mn mx kids, h => by
    unfold Gd at h
    obtain ⟨h1, h2, h3, _, h5⟩ := h
    unfold Wf
    refine ⟨fun e => ?_, by omega, by omega, wfs_of_gds kids h5⟩
    rcases h1 with ⟨h, _⟩ | h | h | ⟨_, h⟩ | h | ⟨h, _⟩
    · omega
    · omega
    · omega
    · intro hk; rw [hk] at h; simp at h
    · omega
    · omega
theorem wfs_of_gds : ∀ ks : List Nd, Gds ks → Wfs ks
  | [], _ => by unfold Wfs; trivial
  | k :: ks, h => by
    unfold Gds at h
    unfold Wfs
    exact ⟨wf_of_gd k h.1, wfs_of_gds ks h.2⟩
end
theorem u64_0 : U64 0 := by unfold U64; omega
theorem u64_wrap (x : Int) : U64 (IntKind.u64.wrap x) := by unfold U64; rw [IntKind.wrap_u64]; omega
theorem u64_bits (o : BinOp) (x y : Int) : U64 (Go.bits o .u64 x y) := by unfold Go.bits; exact u64_wrap _
theorem u64_wth (k : Nat) (x : Int) (b : Nat) (h : U64 x) : U64 (wth k x b) := by
  unfold wth; split
  · exact u64_bits _ _ _
  · exact h
theorem u64_rgk (k a : Nat) : ∀ m, U64 (rgk k a m)
  | 0 => u64_0
  | m + 1 => u64_wth _ _ _ (u64_rgk k a m)
/-- A set's node. -/
abbrev setN (s0 s1 s2 s3 : Int) : Nd := .mk 0 s0 s1 s2 s3 0 0 []
theorem gd_set {s0 s1 s2 s3 : Int} (h0 : U64 s0) (h1 : U64 s1) (h2 : U64 s2) (h3 : U64 s3) : Gd (setN s0 s1 s2 s3) := (Gd_mk _ _ _ _ _ _ _ _).2 ⟨.inl ⟨rfl, rfl⟩, by omega, by omega, ⟨h0, h1, h2, h3⟩, fun k hk => by simp at hk⟩
theorem NM_mk {w : World} {base : Nat} {ok : Nat → Prop} (op s0 s1 s2 s3 mn mx : Int) (kids : List Nd) {g c : Nat} {cells : Array Value} (hl : kids.length ≤ 1000000) (hc : kids.length ≤ c) (ho : ok g) (hb : base ≤ g) (hg : Blk w g 28 cells) (hk : NMs w base ok cells 0 kids) : NM w base ok (.mk op s0 s1 s2 s3 mn mx kids) (ndCells (.mk op s0 s1 s2 s3 mn mx kids) (.slice (some ⟨g, 0, none⟩) kids.length c)) := by
  unfold NM
  exact ⟨_, rfl, hl, .inr ⟨g, c, cells, rfl, hc, ho, hb, hg, hk⟩⟩
theorem NM_set (w : World) (base : Nat) (ok : Nat → Prop) (s0 s1 s2 s3 : Int) : NM w base ok (setN s0 s1 s2 s3) (ndCells (setN s0 s1 s2 s3) (.slice none 0 0)) := by
  unfold NM
  exact ⟨_, rfl, by simp, .inl ⟨rfl, rfl⟩⟩
theorem NM_cells {w : World} {base : Nat} {ok : Nat → Prop} {n : Nd} {cs : List Value} (h : NM w base ok n cs) : ∃ A c, cs = ndCells n (.slice A n.kids.length c) := by
  obtain ⟨A, c, h1, _⟩ := NK_cells (NK_of_NM _ _ h)
  exact ⟨A, c, h1⟩
theorem NMs_one {w : World} {base : Nat} {ok : Nat → Prop} {x : Nd} {v : Value} (h : NM w base ok x (ndCells x v)) : NMs w base ok (ndCells x v).toArray 0 [x] := by
  unfold NMs
  refine ⟨⟨_, h, fun j u hu => ?_⟩, by unfold NMs; trivial⟩
  rw [Nat.zero_mul, Nat.zero_add]; simpa using hu
theorem NMs_two {w : World} {base : Nat} {ok : Nat → Prop} {x y : Nd} {v u : Value} (h : NM w base ok x (ndCells x v)) (h' : NM w base ok y (ndCells y u)) : NMs w base ok (ndCells x v ++ ndCells y u).toArray 0 [x, y] := by
  unfold NMs
  refine ⟨⟨_, h, fun j z hz => ?_⟩, ?_⟩
  · have hj := (List.getElem?_eq_some_iff.1 hz).1
    rw [Nat.zero_mul, Nat.zero_add]
    simp only [List.getElem?_toArray]
    rw [List.getElem?_append_left hj]; exact hz
  · unfold NMs
    refine ⟨⟨_, h', fun j z hz => ?_⟩, by unfold NMs; trivial⟩
    simp only [List.getElem?_toArray]
    rw [List.getElem?_append_right (by simp [ndCells])]
    have e : (0 + 1) * 8 + j - (ndCells x v).length = j := by simp [ndCells]
    rw [e]; exact hz
theorem NKs_of_C {w : World} {A : Option Addr} {xs : List Nd} (h : kNd.C w A xs.length xs) : NKs w A 0 xs := by
  by_cases hp : 0 < xs.length
  · obtain ⟨ad, rfl, hc⟩ := h.2.2 hp
    refine NKs_mk xs 0 (fun j n hj => ?_)
    obtain ⟨c, h1, h2, h3⟩ := hc j n hj
    exact ⟨c, h2, fun t u hu => by rw [Nat.zero_add]; exact h3 t u hu⟩
  · obtain rfl : xs = [] := List.eq_nil_of_length_eq_zero (by omega)
    unfold NKs; trivial
theorem info28' : (Try.prog.info? 28).map (fun i => (i.zero, i.size, i.bytes)) = some (some (.agg #[.int .i64 0, .int .u64 0, .int .u64 0, .int .u64 0, .int .u64 0, .int .i64 0, .int .i64 0, .slice none 0 0]), 8, 80) := by kernel_rfl
set_option maxRecDepth 20000 in
theorem rep_m (n : Nd) (A : Option Addr) (m c : Nat) (lo hi : Int) (w : World) :
    Calls Try.prog 18 #[ndVal n (.slice A m c), .int .i64 lo, .int .i64 hi] w fun e w' => e = .returned (ndVal (.mk 3 0 0 0 0 lo hi [n]) (.slice (some ⟨w.heap.size + 1 + 1, 0, none⟩) 1 1)) ∧ Blk w' (w.heap.size + 1 + 1) 28 (ndCells n (.slice A m c)).toArray ∧ Below w.heap.size w w' := by
  go_enter Try.func18, Try.ntmps18
  go_wp2
  have hb : Below w.heap.size w _ := below_alloc (below_alloc (below_alloc (Below.refl w.heap.size w) (.cells #[.int .i64 n.op, .int .u64 n.s0, .int .u64 n.s1, .int .u64 n.s2, .int .u64 n.s3, .int .i64 n.mn, .int .i64 n.mx, .slice A m c] 28)) (.cells #[.int .i64 3, .int .u64 0, .int .u64 0, .int .u64 0, .int .u64 0, .int .i64 lo, .int .i64 hi, .slice (some ⟨w.heap.size + 1 + 1, 0, none⟩) 1 1] 28)) (.cells #[.int .i64 n.op, .int .u64 n.s0, .int .u64 n.s1, .int .u64 n.s2, .int .u64 n.s3, .int .i64 n.mn, .int .i64 n.mx, .slice A m c] 28)
  have h1 := heap3_1 w (.cells #[.int .i64 n.op, .int .u64 n.s0, .int .u64 n.s1, .int .u64 n.s2, .int .u64 n.s3, .int .i64 n.mn, .int .i64 n.mx, .slice A m c] 28) (.cells #[.int .i64 3, .int .u64 0, .int .u64 0, .int .u64 0, .int .u64 0, .int .i64 lo, .int .i64 hi, .slice (some ⟨w.heap.size + 1 + 1, 0, none⟩) 1 1] 28) (.cells #[.int .i64 n.op, .int .u64 n.s0, .int .u64 n.s1, .int .u64 n.s2, .int .u64 n.s3, .int .i64 n.mn, .int .i64 n.mx, .slice A m c] 28)
  have h2 := heap3_2 w (.cells #[.int .i64 n.op, .int .u64 n.s0, .int .u64 n.s1, .int .u64 n.s2, .int .u64 n.s3, .int .i64 n.mn, .int .i64 n.mx, .slice A m c] 28) (.cells #[.int .i64 3, .int .u64 0, .int .u64 0, .int .u64 0, .int .u64 0, .int .i64 lo, .int .i64 hi, .slice (some ⟨w.heap.size + 1 + 1, 0, none⟩) 1 1] 28) (.cells #[.int .i64 n.op, .int .u64 n.s0, .int .u64 n.s1, .int .u64 n.s2, .int .u64 n.s3, .int .i64 n.mn, .int .i64 n.mx, .slice A m c] 28)
  refine bodyPost_ret (results_cell_row rfl _ _ (w.heap.size + 1) 28 _ (0, 0) _ rfl h1 Try.underlying28 rfl rfl) rfl ?_
  exact ⟨rfl, h2, hb⟩
/-- Between two bytes of Make. -/
structure MkAt (W0 wr : World) (v : Value) (l : List Nd) : Prop where
  r : kNd.R 28 wr W0.heap.size (fun _ => True) v l
  b : Below W0.heap.size W0 wr
  g : ∀ x ∈ l, Gd x
theorem MkAt.below {W0 wr w1 : World} {v : Value} {l : List Nd} (h : MkAt W0 wr v l) (hb : Below wr.heap.size wr w1) : MkAt W0 w1 v l := ⟨Kd.R_below h.r hb, below_then h.b h.b.size hb, h.g⟩
theorem MkAt.elem {W0 wr : World} {A : Option Addr} {n c : Nat} {l : List Nd} (h : MkAt W0 wr (.slice A n c) l) {m : Nat} (hm : m < l.length) : ∃ ad g A' c' k' x, A = some ad ∧ ad = ⟨g, 0, none⟩ ∧ g < wr.heap.size ∧ x ∈ l ∧ l[m]? = some x ∧ NM wr W0.heap.size (fun k => k ≠ g) x (ndCells x (.slice A' k' c')) ∧
    wr.cell? (ad.add (m * 8)) = some (.int .i64 x.op) ∧ wr.cell? ⟨(ad.add (m * 8)).block, (ad.add (m * 8)).off + 1, none⟩ = some (.int .u64 x.s0) ∧ wr.cell? ⟨(ad.add (m * 8)).block, (ad.add (m * 8)).off + 2, none⟩ = some (.int .u64 x.s1) ∧ wr.cell? ⟨(ad.add (m * 8)).block, (ad.add (m * 8)).off + 3, none⟩ = some (.int .u64 x.s2) ∧ wr.cell? ⟨(ad.add (m * 8)).block, (ad.add (m * 8)).off + 4, none⟩ = some (.int .u64 x.s3) ∧ wr.cell? ⟨(ad.add (m * 8)).block, (ad.add (m * 8)).off + 5, none⟩ = some (.int .i64 x.mn) ∧ wr.cell? ⟨(ad.add (m * 8)).block, (ad.add (m * 8)).off + 6, none⟩ = some (.int .i64 x.mx) ∧ wr.cell? ⟨(ad.add (m * 8)).block, (ad.add (m * 8)).off + 7, none⟩ = some (.slice A' k' c') := by
  obtain ⟨g, cap, he, hb, hlt, _⟩ := Kd.R_form h.r (by omega)
  injection he with h1 h2 h3
  subst h1
  have hr := h.r
  subst h2
  obtain ⟨cs, hcl, hM, hcc, _⟩ := Kd.R_elem hr zNd (m : Int) (by omega) (by omega)
  have hxm : l[m]? = some (l.getD (m : Int).toNat zNd) := by rw [show (m : Int).toNat = m from rfl, List.getD_eq_getElem?_getD, List.getElem?_eq_getElem hm]; rfl
  generalize l.getD (m : Int).toNat zNd = x at *
  have hN : NM wr W0.heap.size (fun k => k ≠ g) x cs := NM_mono (fun k hk => hk.2) _ _ hM
  obtain ⟨A', c', e⟩ := NM_cells hN
  subst e
  have hq : ∀ (j : Nat) (u : Value), (ndCells x (.slice A' x.kids.length c'))[j]? = some u → wr.cell? ((⟨g, 0, none⟩ : Addr).add (m * 8 + j)) = some u := fun j u hu => by rw [add_off0]; exact hcc j u hu
  have hf : ∀ (j : Nat) (u : Value), 0 < j → (ndCells x (.slice A' x.kids.length c'))[j]? = some u → wr.cell? ⟨((⟨g, 0, none⟩ : Addr).add (m * 8)).block, ((⟨g, 0, none⟩ : Addr).add (m * 8)).off + j, none⟩ = some u := fun j u h0 hu => by rw [← add_field _ (m * 8) j h0]; exact hq j u hu
  exact ⟨_, g, A', c', x.kids.length, x, rfl, rfl, hlt, List.mem_of_getElem? hxm, hxm, hN, hq 0 _ rfl, hf 1 _ (by omega) rfl, hf 2 _ (by omega) rfl, hf 3 _ (by omega) rfl, hf 4 _ (by omega) rfl, hf 5 _ (by omega) rfl, hf 6 _ (by omega) rfl, hf 7 _ (by omega) rfl⟩
theorem mk_one {W0 V w5 : World} {v : Value} {l : List Nd} {g bS : Nat} {A' : Option Addr} {k' c' : Nat} {z : Nd} (lo hi op : Int) (hM : MkAt W0 V v l) (hgl : g < V.heap.size) (hb : V.heap.size ≤ bS) (hN : NM V W0.heap.size (fun k => k ≠ g) z (ndCells z (.slice A' k' c'))) (hg : Blk w5 bS 28 #[.int .i64 z.op, .int .u64 z.s0, .int .u64 z.s1, .int .u64 z.s2, .int .u64 z.s3, .int .i64 z.mn, .int .i64 z.mx, .slice A' k' c']) (hB : Below V.heap.size V w5) :
    NM w5 W0.heap.size (fun k => k ≠ g) (.mk op 0 0 0 0 lo hi [z]) (ndCells (.mk op 0 0 0 0 lo hi [z]) (.slice (some ⟨bS, 0, none⟩) 1 1)) := by
  have h := hM.b.size
  exact NM_mk _ _ _ _ _ _ _ [z] (by simp) (by simp) (by omega) (by omega) hg (NMs_one (Kd.M_below (d := kNd) hN hB))
/-- A node is stored into a row. -/
theorem st8 {P : Program} {ops : Array Oper} {rest : List Oper} {o : Oper} {a : Act} {Q : Exit → Act → World → Prop} {W0 W : World} (p x : Tmp) (hN : o.dst = none) (hgd : o.guard = none) (ho : o.op = .store 28 (.tmp p) (.tmp x)) {g n cap o' m : Nat} {l : List Nd} {x' : Nd} {v' : Value}
    (haddr : a.eval (.tmp p) = .pointer (some ⟨g, o', none⟩)) (hoff : o' = m * 8) (hx : a.eval (.tmp x) = ndVal x' v') (hv : v'.cells.toList = [v']) (hv1 : v'.oneCell' = true) (ht : (P.info? 28).map (·.size) = some 8)
    (HO : MkAt W0 W (.slice (some ⟨g, 0, none⟩) n cap) l) (hm : m < n) (hM : NM W W0.heap.size (fun k => k ≠ g) x' (ndCells x' v')) (hG : Gd x')
    (h : ∀ w1, Hid (MkAt W0 w1 (.slice (some ⟨g, 0, none⟩) n cap) (l.set m x')) → wpList P ops Q rest a w1) : wpList P ops Q (o :: rest) a W := by
  have hn := (Kd.R_reads' HO.r).1
  have hr := HO.r
  obtain ⟨cs, hcl, _, hcc, _⟩ := Kd.R_elem hr zNd (m : Int) (by omega) (by omega)
  refine Kd.R_store kNd (w0 := W0) W0.heap.size hN hgd 28 (.tmp p) (.tmp x) ho 28 (m : Int) 0 l x' _ (ndCells x' v') cs (fun _ => True) (fun k => k ≠ g) haddr (by rw [hoff]; rfl) hx (by simp [ndVal, ndCells, Value.cells]) (by rw [ht]; rfl) (fun q hq => ?_) hr (by omega) (by omega) hcl hcc (by simp [ndCells, kNd]) ?_ (fun k hk => ⟨trivial, hk⟩) HO.b ?_
  · simp only [ndCells, List.mem_cons, List.not_mem_nil, or_false] at hq
    rcases hq with rfl | rfl | rfl | rfl | rfl | rfl | rfl | rfl <;> first | rfl | exact hv1
  · rw [show List.take 0 cs ++ ndCells x' v' ++ List.drop (0 + (ndCells x' v').length) cs = ndCells x' v' by
      rw [List.drop_eq_nil_of_le (by rw [hcl]; simp [ndCells, kNd])]; simp]
    exact hM
  · intro w1 h1 h2 _
    exact h w1 (Lib.hid ⟨h1, h2, fun z hz => by
      rcases List.mem_or_eq_of_mem_set hz with hz | rfl
      · exact HO.g z hz
      · exact hG⟩)
theorem wrap64_nat (m : Nat) (h : m ≤ 1000000) : Go.RowKit.wrap64 (m : Int) = (m : Int) := by rw [← i64_w, IntKind.wrap_i64]; omega
/-- An element's cells. -/
def elemC (w : World) (ad : Addr) (x : Nd) (v : Value) : Prop := w.cell? ad = some (.int .i64 x.op) ∧ w.cell? ⟨ad.block, ad.off + 1, none⟩ = some (.int .u64 x.s0) ∧ w.cell? ⟨ad.block, ad.off + 2, none⟩ = some (.int .u64 x.s1) ∧ w.cell? ⟨ad.block, ad.off + 3, none⟩ = some (.int .u64 x.s2) ∧ w.cell? ⟨ad.block, ad.off + 4, none⟩ = some (.int .u64 x.s3) ∧ w.cell? ⟨ad.block, ad.off + 5, none⟩ = some (.int .i64 x.mn) ∧ w.cell? ⟨ad.block, ad.off + 6, none⟩ = some (.int .i64 x.mx) ∧ w.cell? ⟨ad.block, ad.off + 7, none⟩ = some v
theorem elemC.below {w w1 : World} {ad : Addr} {x : Nd} {v : Value} (h : elemC w ad x v) (hb : Below w.heap.size w w1) : elemC w1 ad x v := by
  obtain ⟨h0, h1, h2, h3, h4, h5, h6, h7⟩ := h
  exact ⟨pw_cell_below hb h0, pw_cell_below hb h1, pw_cell_below hb h2, pw_cell_below hb h3, pw_cell_below hb h4, pw_cell_below hb h5, pw_cell_below hb h6, pw_cell_below hb h7⟩
/-- The eight cells of a box are written. -/
abbrev put8 (w : World) (g : Nat) (b0 b1 b2 b3 b4 b5 b6 b7 : Value) : World := ((((((((w.setCell ⟨g, 0, none⟩ b0).setCell ⟨g, 1, none⟩ b1).setCell ⟨g, 2, none⟩ b2).setCell ⟨g, 3, none⟩ b3).setCell ⟨g, 4, none⟩ b4).setCell ⟨g, 5, none⟩ b5).setCell ⟨g, 6, none⟩ b6).setCell ⟨g, 7, none⟩ b7)
theorem set8 {w : World} {g : Nat} {t : TypeId} {a0 a1 a2 a3 a4 a5 a6 a7 : Value} (h : Blk w g t #[a0, a1, a2, a3, a4, a5, a6, a7]) (b0 b1 b2 b3 b4 b5 b6 b7 : Value) : Blk (put8 w g b0 b1 b2 b3 b4 b5 b6 b7) g t #[b0, b1, b2, b3, b4, b5, b6, b7] := by
  have := (((((((h.set_ 0 b0).set_ 1 b1).set_ 2 b2).set_ 3 b3).set_ 4 b4).set_ 5 b5).set_ 6 b6).set_ 7 b7
  simpa using this
theorem below8 {B g : Nat} {w W : World} (h : Below B w W) (hg : B ≤ g) (b0 b1 b2 b3 b4 b5 b6 b7 : Value) : Below B w (put8 W g b0 b1 b2 b3 b4 b5 b6 b7) :=
  (((((((h.setCell (p := ⟨g, 0, none⟩) hg _).setCell (p := ⟨g, 1, none⟩) hg _).setCell (p := ⟨g, 2, none⟩) hg _).setCell (p := ⟨g, 3, none⟩) hg _).setCell (p := ⟨g, 4, none⟩) hg _).setCell (p := ⟨g, 5, none⟩) hg _).setCell (p := ⟨g, 6, none⟩) hg _).setCell (p := ⟨g, 7, none⟩) hg _
theorem far8 {w : World} {g k : Nat} {t : TypeId} {cs : Array Value} (h : Blk w k t cs) (hk : k ≠ g) (b0 b1 b2 b3 b4 b5 b6 b7 : Value) : Blk (put8 w g b0 b1 b2 b3 b4 b5 b6 b7) k t cs :=
  Blk.far (p := ⟨g, 7, none⟩) (Blk.far (p := ⟨g, 6, none⟩) (Blk.far (p := ⟨g, 5, none⟩) (Blk.far (p := ⟨g, 4, none⟩) (Blk.far (p := ⟨g, 3, none⟩) (Blk.far (p := ⟨g, 2, none⟩) (Blk.far (p := ⟨g, 1, none⟩) (Blk.far (p := ⟨g, 0, none⟩) h hk _) hk _) hk _) hk _) hk _) hk _) hk _) hk _
/-- Two elements' cells, one behind the other. -/
abbrev two16 (x y : Nd) (v u : Value) : Array Value := #[.int .i64 x.op, .int .u64 x.s0, .int .u64 x.s1, .int .u64 x.s2, .int .u64 x.s3, .int .i64 x.mn, .int .i64 x.mx, v, .int .i64 y.op, .int .u64 y.s0, .int .u64 y.s1, .int .u64 y.s2, .int .u64 y.s3, .int .i64 y.mn, .int .i64 y.mx, u]
theorem mk_two {W0 V w5 : World} {v : Value} {l : List Nd} {g bS : Nat} {A A' : Option Addr} {k c k' c' : Nat} {x z : Nd} (op : Int) (hM : MkAt W0 V v l) (hgl : g < V.heap.size) (hb : V.heap.size ≤ bS) (hN : NM V W0.heap.size (fun k => k ≠ g) x (ndCells x (.slice A k c))) (hN' : NM V W0.heap.size (fun k => k ≠ g) z (ndCells z (.slice A' k' c'))) (hg : Blk w5 bS 28 (two16 x z (.slice A k c) (.slice A' k' c'))) (hB : Below V.heap.size V w5) :
    NM w5 W0.heap.size (fun k => k ≠ g) (.mk op 0 0 0 0 0 0 [x, z]) (ndCells (.mk op 0 0 0 0 0 0 [x, z]) (.slice (some ⟨bS, 0, none⟩) 2 2)) := by
  have h := hM.b.size
  exact NM_mk _ _ _ _ _ _ _ [x, z] (by simp) (by simp) (by omega) (by omega) hg (NMs_two (Kd.M_below (d := kNd) hN hB) (Kd.M_below (d := kNd) hN' hB))
theorem MkAt.take {W0 wr : World} {A : Option Addr} {n c : Nat} {l : List Nd} (h : MkAt W0 wr (.slice A n c) l) {m : Nat} (hm : m ≤ l.length) : MkAt W0 wr (.slice A m c) (l.take m) := ⟨Kd.R_take h.r hm, h.b, fun x hx => h.g x (List.mem_of_mem_take hx)⟩
theorem put8_block {w : World} {g k : Nat} (hk : k ≠ g) (b0 b1 b2 b3 b4 b5 b6 b7 : Value) : (put8 w g b0 b1 b2 b3 b4 b5 b6 b7).heap[k]? = w.heap[k]? := by
  unfold put8
  rw [Below.heap_setCell _ ⟨g, 7, none⟩ _ k hk, Below.heap_setCell _ ⟨g, 6, none⟩ _ k hk, Below.heap_setCell _ ⟨g, 5, none⟩ _ k hk, Below.heap_setCell _ ⟨g, 4, none⟩ _ k hk, Below.heap_setCell _ ⟨g, 3, none⟩ _ k hk, Below.heap_setCell _ ⟨g, 2, none⟩ _ k hk, Below.heap_setCell _ ⟨g, 1, none⟩ _ k hk, Below.heap_setCell _ ⟨g, 0, none⟩ _ k hk]
theorem NM_put8 {w : World} {base g : Nat} {ok : Nat → Prop} {n : Nd} {cs : List Value} (h : NM w base ok n cs) (hg : g < base) (b0 b1 b2 b3 b4 b5 b6 b7 : Value) : NM (put8 w g b0 b1 b2 b3 b4 b5 b6 b7) base ok n cs :=
  NM_mono (fun k hk => hk.1) _ _ (NM_move (fun k hk => put8_block (by have := hk.2.1; omega) _ _ _ _ _ _ _ _) _ _ (NM_bound _ _ h))
theorem IsN_of_NM {w : World} {base : Nat} {ok : Nat → Prop} {n : Nd} {v : Value} (h : NM w base ok n (ndCells n v)) : IsN w n (ndVal n v) := by
  obtain ⟨A, c, h1, h2, h3, h4⟩ := NK_cells (NK_of_NM _ _ h)
  have hv : v = .slice A n.kids.length c := by
    have := congrArg (fun l => l[7]?) h1
    simpa [ndCells] using this
  exact ⟨A, c, by rw [hv], h2, h3, h4⟩
theorem IsN_put8 {W0 wr : World} {A : Option Addr} {c g : Nat} {l : List Nd} (h : MkAt W0 wr (.slice A l.length c) l) (hl : l.length ≤ 1000000) (hg : g < W0.heap.size) (op : Int) (b0 b1 b2 b3 b4 b5 b6 b7 : Value) : IsN (put8 wr g b0 b1 b2 b3 b4 b5 b6 b7) (.mk op 0 0 0 0 0 0 l) (ndVal (.mk op 0 0 0 0 0 0 l) (.slice A l.length c)) := by
  have hr : kNd.R 28 (put8 wr g b0 b1 b2 b3 b4 b5 b6 b7) W0.heap.size _ (.slice A l.length c) l := Kd.R_move (Kd.R_bound h.r) (fun k hk => put8_block (by have := hk.2.1; omega) _ _ _ _ _ _ _ _)
  have hq := Kd.R_reads' hr
  exact ⟨A, c, rfl, hq.2.1, hl, NKs_of_C hq.2.2⟩
/-- What the pair's region leaves: the row's block, the box. -/
structure Pair (V w' : World) (x z : Nd) (v u : Value) (G B : Nat) : Prop where
  b : Below V.heap.size V w'
  g : Blk w' G 28 (two16 x z v u)
  c : Blk w' B 28 #[.int .i64 0, .int .u64 0, .int .u64 0, .int .u64 0, .int .u64 0, .int .i64 0, .int .i64 0, .slice none 0 0]
  ne : G ≠ B
  gl : V.heap.size ≤ G
  bl : V.heap.size ≤ B
end Go.Proofs.Ytimhiacjoplkeaa
