/- Words for the laws' walks: two boxes that hold patterns. Own text. -/
import Derived.Test.YtimhiacjoplkeaaMke
import Derived.Test.YtimhiacjoplkeaaAwk
import Derived.Test.YtimhiacjoplkeaaPla
namespace Go.Proofs.Ytimhiacjoplkeaa
open Go.RowKit Go.Proofs.Ytimhiacjoplkeaa.P Go.Proofs.YtimhiacjoplkeaaW.PrintWords Go.Proofs.YtimhiacjoplkeaaW.PrintLast
set_option linter.unusedVariables false
set_option linter.unusedSimpArgs false
/-- A pattern's box. -/
abbrev ndC (n : Nd) (v : Value) : Array Value := boxC n.op n.s0 n.s1 n.s2 n.s3 n.mn n.mx v
abbrev cellsN (w : World) (b : Nat) (n : Nd) (v : Value) : Prop := cells8 w b n.op n.s0 n.s1 n.s2 n.s3 n.mn n.mx v
/-- Two boxes that hold patterns. -/
structure St2 (w0 W : World) (b1 b2 : Nat) (n a : Nd) (v1 v2 : Value) : Prop where
  x1 : Blk W b1 28 (ndC n v1)
  x2 : Blk W b2 28 (ndC a v2)
  n1 : IsN W n (ndVal n v1)
  n2 : IsN W a (ndVal a v2)
  b : Below w0.heap.size w0 W
theorem St2.below {w0 W W' : World} {b1 b2 : Nat} {n a : Nd} {v1 v2 : Value} (h : St2 w0 W b1 b2 n a v1 v2) (hb : Below W.heap.size W W') : St2 w0 W' b1 b2 n a v1 v2 :=
  ⟨h.x1.below hb h.x1.lt, h.x2.below hb h.x2.lt, h.n1.below hb, h.n2.below hb, below_then h.b h.b.size hb⟩
theorem St2.alloc {w0 W : World} {b1 b2 : Nat} {n a : Nd} {v1 v2 : Value} (h : St2 w0 W b1 b2 n a v1 v2) (o : Obj) : St2 w0 (W.alloc o) b1 b2 n a v1 v2 := h.below (below_alloc (Below.refl _ _) o)
theorem St2.drew {w0 W : World} {b1 b2 : Nat} {n a : Nd} {v1 v2 : Value} (h : St2 w0 W b1 b2 n a v1 v2) : St2 w0 W.drew b1 b2 n a v1 v2 := h.below (below_drew1 (Below.refl _ _))
theorem St2.cells {w0 W : World} {b1 b2 : Nat} {n a : Nd} {v1 v2 : Value} (h : St2 w0 W b1 b2 n a v1 v2) : cellsN W b1 n v1 ∧ cellsN W b2 a v2 := ⟨cells8_of h.x1, cells8_of h.x2⟩
theorem NK_of_IsN {W : World} {x : Nd} {A : Option Addr} {k c : Nat} (h : IsN W x (ndVal x (.slice A k c))) : k = x.kids.length ∧ NK W x (ndCells x (.slice A k c)) := by
  obtain ⟨A', c', e, hk⟩ := h.cells
  injection e with e
  have e7 := congrArg (fun q : Array Value => q.toList[7]?) e
  simp only [List.getElem?_cons_succ, List.getElem?_cons_zero] at e7
  injection e7 with e7
  injection e7 with h1 h2 h3
  exact ⟨h2, by rw [h1, h2, h3]; exact hk⟩
theorem IsN_two {W : World} {G : Nat} {x z : Nd} {A A' : Option Addr} {k c k' c' : Nat} (op : Int) (hg : Blk W G 28 (two16 x z (.slice A k c) (.slice A' k' c'))) (hx : IsN W x (ndVal x (.slice A k c))) (hz : IsN W z (ndVal z (.slice A' k' c'))) :
    IsN W (.mk op 0 0 0 0 0 0 [x, z]) (ndVal (.mk op 0 0 0 0 0 0 [x, z]) (.slice (some ⟨G, 0, none⟩) 2 2)) := by
  refine ⟨some ⟨G, 0, none⟩, 2, rfl, Nat.le_refl _, by simp [Nd.kids], NKs_mk _ 0 (fun j n hj => ?_)⟩
  have hg' : Blk W G 28 (ndCells x (.slice A k c) ++ ndCells z (.slice A' k' c')).toArray := hg
  match j, hj with
  | 0, hj =>
    injection hj with hj; subst hj
    refine ⟨_, (NK_of_IsN hx).2, fun t u hu => ?_⟩
    have ht := (List.getElem?_eq_some_iff.1 hu).1
    rw [add_off0, hg'.cell, List.getElem?_toArray, show (0 + 0) * 8 + t = t by omega, List.getElem?_append_left ht]; exact hu
  | 1, hj =>
    injection hj with hj; subst hj
    refine ⟨_, (NK_of_IsN hz).2, fun t u hu => ?_⟩
    have hl : (ndCells x (.slice A k c)).length = 8 := rfl
    rw [add_off0, hg'.cell, List.getElem?_toArray, List.getElem?_append_right (by rw [hl]; omega), hl, show (0 + 1) * 8 + t - 8 = t by omega]; exact hu
/-- One kid. -/
theorem IsN_one {W : World} {G m cp : Nat} {x : Nd} {A : Option Addr} {k c : Nat} {cs : Array Value} (op : Int) (hm : m = 1) (hc : 1 ≤ cp) (hg : Blk W G 28 cs) (hcs : ∀ (t : Nat) (u : Value), (ndCells x (.slice A k c))[t]? = some u → cs[t]? = some u) (hx : IsN W x (ndVal x (.slice A k c))) :
    IsN W (.mk op 0 0 0 0 0 0 [x]) (ndVal (.mk op 0 0 0 0 0 0 [x]) (.slice (some ⟨G, 0, none⟩) m cp)) := by
  subst hm
  refine ⟨some ⟨G, 0, none⟩, cp, rfl, hc, by simp [Nd.kids], NKs_mk _ 0 (fun j n hj => ?_)⟩
  match j, hj with
  | 0, hj =>
    injection hj with hj; subst hj
    refine ⟨_, (NK_of_IsN hx).2, fun t u hu => ?_⟩
    rw [add_off0, hg.cell, show (0 + 0) * 8 + t = t by omega]; exact hcs t u hu
theorem wf_mk {op s0 s1 s2 s3 mn mx : Int} {kids : List Nd} (h3 : op = 3 → kids ≠ []) (hm : 0 ≤ mn ∧ mn ≤ 1000) (hx : mx ≤ 1000) (hk : ∀ k ∈ kids, Wf k) : Wf (.mk op s0 s1 s2 s3 mn mx kids) := by
  unfold Wf; exact ⟨h3, hm, hx, wfs_all kids hk⟩
end Go.Proofs.Ytimhiacjoplkeaa
