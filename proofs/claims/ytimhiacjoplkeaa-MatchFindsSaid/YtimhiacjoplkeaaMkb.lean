/- The round of the reference's Make: each case of its switch, over the case's own code. Own text (printed by wip/c04/gen_mk2.py). -/
import Derived.Test.YtimhiacjoplkeaaMkA
import Derived.Deep.CutRange
import Derived.Deep.CutBlock
namespace Go.Proofs.Ytimhiacjoplkeaa
open Go.RowKit Go.Proofs.Ytimhiacjoplkeaa.P Go.Proofs.YtimhiacjoplkeaaW.PrintWords Go.Proofs.YtimhiacjoplkeaaW.PrintLast
set_option linter.unusedVariables false
set_option linter.unusedSimpArgs false
/-- The block of a number. -/
def blockOf (n : Nat) : Code → Option Code
  | .block k c => if k = n then some c else blockOf n c
  | .seq a b => match blockOf n a with
    | some c => some c
    | none => blockOf n b
  | .loop c => blockOf n c
  | .scope c => blockOf n c
  | .cond _ a b => match blockOf n a with
    | some c => some c
    | none => blockOf n b
  | _ => none
/-- The two ways of the choice that ends a sequence. -/
def thenOf : Code → Code
  | .seq _ b => thenOf b
  | .cond _ a _ => a
  | _ => .skip
def elseOf : Code → Code
  | .seq _ b => elseOf b
  | .cond _ _ b => b
  | _ => .skip
noncomputable def mkS0 : Code := (Try.f8.body.bind (blockOf 2)).getD .skip
noncomputable def mkS1 : Code := elseOf mkS0
noncomputable def mkS2 : Code := elseOf mkS1
noncomputable def mkS3 : Code := elseOf mkS2
noncomputable def mkS4 : Code := elseOf mkS3
noncomputable def mkS5 : Code := elseOf mkS4
noncomputable def mkS6 : Code := elseOf mkS5
set_option maxRecDepth 1000000 in
/-- Where a round's switch ends. -/
def EndS (c0 c1 c2 c187 c188 c189 c190 c191 c192 c193 c194 : Value) (W0 : World) (i n : Nat) (a' : Act) (w' : World) : Prop :=
  ∃ u3 : Value, ∃ u5 : Value, ∃ u6 : Value, ∃ u7 : Value, ∃ u8 : Value, ∃ u9 : Value, ∃ u10 : Value, ∃ u11 : Value, ∃ u12 : Value, ∃ u13 : Value, ∃ u14 : Value, ∃ u15 : Value, ∃ u16 : Value, ∃ u17 : Value, ∃ u18 : Value, ∃ u19 : Value, ∃ u20 : Value, ∃ u21 : Value, ∃ u22 : Value, ∃ u23 : Value, ∃ u24 : Value, ∃ u25 : Value, ∃ u26 : Value, ∃ u27 : Value, ∃ u28 : Value, ∃ u29 : Value, ∃ u30 : Value, ∃ u31 : Value, ∃ u32 : Value, ∃ u33 : Value, ∃ u34 : Value, ∃ u35 : Value, ∃ u36 : Value, ∃ u37 : Value, ∃ u38 : Value, ∃ u39 : Value, ∃ u40 : Value, ∃ u41 : Value, ∃ u42 : Value, ∃ u43 : Value, ∃ u44 : Value, ∃ u45 : Value, ∃ u46 : Value, ∃ u47 : Value, ∃ u48 : Value, ∃ u49 : Value, ∃ u50 : Value, ∃ u51 : Value, ∃ u52 : Value, ∃ u53 : Value, ∃ u54 : Value, ∃ u55 : Value, ∃ u56 : Value, ∃ u57 : Value, ∃ u58 : Value, ∃ u59 : Value, ∃ u60 : Value, ∃ u61 : Value, ∃ u62 : Value, ∃ u63 : Value, ∃ u64 : Value, ∃ u65 : Value, ∃ u66 : Value, ∃ u67 : Value, ∃ u68 : Value, ∃ u69 : Value, ∃ u70 : Value, ∃ u71 : Value, ∃ u72 : Value, ∃ u73 : Value, ∃ u74 : Value, ∃ u75 : Value, ∃ u76 : Value, ∃ u77 : Value, ∃ u78 : Value, ∃ u79 : Value, ∃ u80 : Value, ∃ u81 : Value, ∃ u82 : Value, ∃ u83 : Value, ∃ u84 : Value, ∃ u85 : Value, ∃ u86 : Value, ∃ u87 : Value, ∃ u88 : Value, ∃ u89 : Value, ∃ u90 : Value, ∃ u91 : Value, ∃ u92 : Value, ∃ u93 : Value, ∃ u94 : Value, ∃ u95 : Value, ∃ u96 : Value, ∃ u97 : Value, ∃ u98 : Value, ∃ u99 : Value, ∃ u100 : Value, ∃ u101 : Value, ∃ u102 : Value, ∃ u103 : Value, ∃ u104 : Value, ∃ u105 : Value, ∃ u106 : Value, ∃ u107 : Value, ∃ u108 : Value, ∃ u109 : Value, ∃ u110 : Value, ∃ u111 : Value, ∃ u112 : Value, ∃ u113 : Value, ∃ u114 : Value, ∃ u115 : Value, ∃ u116 : Value, ∃ u117 : Value, ∃ u118 : Value, ∃ u119 : Value, ∃ u120 : Value, ∃ u121 : Value, ∃ u122 : Value, ∃ u123 : Value, ∃ u124 : Value, ∃ u125 : Value, ∃ u126 : Value, ∃ u127 : Value, ∃ u128 : Value, ∃ u129 : Value, ∃ u130 : Value, ∃ u131 : Value, ∃ u132 : Value, ∃ u133 : Value, ∃ u134 : Value, ∃ u135 : Value, ∃ u136 : Value, ∃ u137 : Value, ∃ u138 : Value, ∃ u139 : Value, ∃ u140 : Value, ∃ u141 : Value, ∃ u142 : Value, ∃ u143 : Value, ∃ u144 : Value, ∃ u145 : Value, ∃ u146 : Value, ∃ u147 : Value, ∃ u148 : Value, ∃ u149 : Value, ∃ u150 : Value, ∃ u151 : Value, ∃ u152 : Value, ∃ u153 : Value, ∃ u154 : Value, ∃ u155 : Value, ∃ u156 : Value, ∃ u157 : Value, ∃ u158 : Value, ∃ u159 : Value, ∃ u160 : Value, ∃ u161 : Value, ∃ u162 : Value, ∃ u163 : Value, ∃ u164 : Value, ∃ u165 : Value, ∃ u166 : Value, ∃ u167 : Value, ∃ u168 : Value, ∃ u169 : Value, ∃ u170 : Value, ∃ u171 : Value, ∃ u172 : Value, ∃ u173 : Value, ∃ u174 : Value, ∃ u175 : Value, ∃ u176 : Value, ∃ u177 : Value, ∃ u178 : Value, ∃ u179 : Value, ∃ u180 : Value, ∃ u181 : Value, ∃ u182 : Value, ∃ u183 : Value, ∃ u184 : Value, ∃ u185 : Value, ∃ u186 : Value, (∃ l', List.length l' ≤ n + 1 ∧ Hid (MkAt W0 w' u3 l')) ∧ a' = ⟨#[c0, c1, c2, u3, .int .i64 i, u5, u6, u7, u8, u9, u10, u11, u12, u13, u14, u15, u16, u17, u18, u19, u20, u21, u22, u23, u24, u25, u26, u27, u28, u29, u30, u31, u32, u33, u34, u35, u36, u37, u38, u39, u40, u41, u42, u43, u44, u45, u46, u47, u48, u49, u50, u51, u52, u53, u54, u55, u56, u57, u58, u59, u60, u61, u62, u63, u64, u65, u66, u67, u68, u69, u70, u71, u72, u73, u74, u75, u76, u77, u78, u79, u80, u81, u82, u83, u84, u85, u86, u87, u88, u89, u90, u91, u92, u93, u94, u95, u96, u97, u98, u99, u100, u101, u102, u103, u104, u105, u106, u107, u108, u109, u110, u111, u112, u113, u114, u115, u116, u117, u118, u119, u120, u121, u122, u123, u124, u125, u126, u127, u128, u129, u130, u131, u132, u133, u134, u135, u136, u137, u138, u139, u140, u141, u142, u143, u144, u145, u146, u147, u148, u149, u150, u151, u152, u153, u154, u155, u156, u157, u158, u159, u160, u161, u162, u163, u164, u165, u166, u167, u168, u169, u170, u171, u172, u173, u174, u175, u176, u177, u178, u179, u180, u181, u182, u183, u184, u185, u186, c187, c188, c189, c190, c191, c192, c193, c194], []⟩
set_option maxRecDepth 20000 in
set_option maxHeartbeats 4000000 in
theorem mkA (c0 c1 c2 c187 c188 c189 c190 c191 c192 c193 c194 : Value) (u8 u9 u10 u11 u12 u13 u14 u15 u16 u17 u18 u19 u20 u21 u22 u23 u24 u25 u26 u27 u28 u29 u30 u31 u32 u33 u34 u35 u36 u37 u38 u39 u40 u41 u42 u43 u44 u45 u46 u47 u48 u49 u50 u51 u52 u53 u54 u55 u56 u57 u58 u59 u60 u61 u62 u63 u64 u65 u66 u67 u68 u69 u70 u71 u72 u73 u74 u75 u76 u77 u78 u79 u80 u81 u82 u83 u84 u85 u86 u87 u88 u89 u90 u91 u92 u93 u94 u95 u96 u97 u98 u99 u100 u101 u102 u103 u104 u105 u106 u107 u108 u109 u110 u111 u112 u113 u114 u115 u116 u117 u118 u119 u120 u121 u122 u123 u124 u125 u126 u127 u128 u129 u130 u131 u132 u133 u134 u135 u136 u137 u138 u139 u140 u141 u142 u143 u144 u145 u146 u147 u148 u149 u150 u151 u152 u153 u154 u155 u156 u157 u158 u159 u160 u161 u162 u163 u164 u165 u166 u167 u168 u169 u170 u171 u172 u173 u174 u175 u176 u177 u178 u179 u180 u181 u182 u183 u184 u185 u186 : Value) (W0 V : World) (A3 : Option Addr) (k3 i x y bl : Nat) (l : List Nd) (q0 q1 q2 q3 : Int) (hll2 : l.length ≤ 1000) (hx256 : x < 256) (hy : y < 256) (hyl : 97 ≤ y) (hby : Hid ((97 + (x : Int) / 8 % 3) = (y : Int))) (hlen : Hid (l.length ≤ k3)) (hM3 : Hid (MkAt W0 V (.slice A3 l.length k3) l)) (hL3 : Hid (Blk V bl 28 #[.int .i64 0, .int .u64 q0, .int .u64 q1, .int .u64 q2, .int .u64 q3, .int .i64 0, .int .i64 0, .slice none 0 0])) (hq : Hid (U64 q0 ∧ U64 q1 ∧ U64 q2 ∧ U64 q3)) (Q : Exit → Act → World → Prop) (hP : ∀ ch (a : Act) N v w', Q (.panic ch) (a.put N v) w' → Q (.panic ch) a w') (hQ : ∀ a' w', EndS c0 c1 c2 c187 c188 c189 c190 c191 c192 c193 c194 W0 i l.length a' w' → Q .normal a' w')  :
    Code.wp Try.prog mkS6 Q ⟨#[c0, c1, c2, .slice A3 l.length k3, .int .i64 i, .int .i64 x, .int .i64 l.length, .pointer (some ⟨bl, 0, none⟩), u8, u9, u10, u11, u12, u13, u14, u15, u16, u17, u18, u19, u20, u21, u22, u23, u24, u25, u26, u27, u28, u29, u30, u31, u32, u33, u34, u35, u36, u37, u38, u39, u40, u41, u42, u43, u44, u45, u46, u47, u48, u49, u50, u51, u52, u53, u54, u55, u56, u57, u58, u59, u60, u61, u62, u63, u64, u65, u66, u67, u68, u69, u70, u71, u72, u73, u74, u75, u76, u77, u78, u79, u80, u81, u82, u83, u84, u85, u86, u87, u88, u89, u90, u91, u92, u93, u94, u95, u96, u97, u98, u99, u100, u101, u102, u103, u104, u105, u106, u107, u108, u109, u110, u111, u112, u113, u114, u115, u116, u117, u118, u119, u120, u121, u122, u123, u124, u125, u126, u127, u128, u129, u130, u131, u132, u133, u134, u135, u136, u137, u138, u139, u140, u141, u142, u143, u144, u145, u146, u147, u148, u149, u150, u151, u152, u153, u154, u155, u156, u157, u158, u159, u160, u161, u162, u163, u164, u165, u166, u167, u168, u169, u170, u171, u172, u173, u174, u175, u176, u177, u178, u179, u180, u181, u182, u183, u184, u185, u186, c187, c188, c189, c190, c191, c192, c193, c194], []⟩ V := by
  conv => arg 2; whnf
  have e0 := hL3.out.cell 0
  have e1 := hL3.out.cell 1
  have e2 := hL3.out.cell 2
  have e3 := hL3.out.cell 3
  have e4 := hL3.out.cell 4
  have e5 := hL3.out.cell 5
  have e6 := hL3.out.cell 6
  have e7 := hL3.out.cell 7
  simp only [List.getElem?_toArray, List.getElem?_cons_zero, List.getElem?_cons_succ] at e0 e1 e2 e3 e4 e5 e6 e7
  have hVs := Lib.hid hM3.out.b.size
  go_wp2_with ((with_reducible refine gate_builtin (b := .append) (xs := #[.tmp 33, .tmp 35]) rfl ?_); at_builtin; go_loud (refine Kd.R_append kNd (w0 := W0) W0.heap.size rfl (.tmp 33) (.tmp 35) 26 28 (.agg #[.int .i64 0, .int .u64 0, .int .u64 0, .int .u64 0, .int .u64 0, .int .i64 0, .int .i64 0, .slice none 0 0]) 80 rfl Try.underlying26 info28' rfl (by decide) (by decide) (.slice A3 l.length k3) l (setN q0 q1 q2 q3) (ndCells (setN q0 q1 q2 q3) (.slice none 0 0)) (fun _ => True) (fun _ => False) rfl rfl (NM_set _ _ _ _ _ _ _) (fun _ hk => hk.elim) (fun _ _ => trivial) hM3.out.r hM3.out.b hVs.out (by omega) ?_; intro v9 w9 ho9 hb9 hg9 hat9; have hMN := Lib.hid (show MkAt W0 w9 v9 (l ++ [setN q0 q1 q2 q3]) from ⟨ho9, hb9, fun z hz => (List.mem_append.1 hz).elim (hM3.out.g z) (fun h => by rw [List.mem_singleton.1 h]; exact gd_set hq.out.1 hq.out.2.1 hq.out.2.2.1 hq.out.2.2.2)⟩); clear ho9 hb9 hg9 hat9))
  unfold EndS; (repeat apply Exists.intro); exact ⟨⟨_, by rw [List.length_append, List.length_singleton]; exact Nat.le_refl _, hMN⟩, rfl⟩
set_option maxRecDepth 20000 in
set_option maxHeartbeats 4000000 in
theorem mkT3 (c0 c1 c2 c187 c188 c189 c190 c191 c192 c193 c194 : Value) (u8 u9 u10 u11 u12 u13 u14 u15 u16 u17 u18 u19 u20 u21 u22 u23 u24 u25 u26 u27 u28 u29 u30 u31 u32 u33 u34 u35 u36 u37 u38 u39 u40 u41 u42 u43 u44 u45 u46 u47 u48 u49 u50 u51 u52 u53 u54 u55 u56 u57 u58 u59 u60 u61 u62 u63 u64 u65 u66 u67 u68 u69 u70 u71 u72 u73 u74 u75 u76 u77 u78 u79 u80 u81 u82 u83 u84 u85 u86 u87 u88 u89 u90 u91 u92 u93 u94 u95 u96 u97 u98 u99 u100 u101 u102 u103 u104 u105 u106 u107 u108 u109 u110 u111 u112 u113 u114 u115 u116 u117 u118 u119 u120 u121 u122 u123 u124 u125 u126 u127 u128 u129 u130 u131 u132 u133 u134 u135 u136 u137 u138 u139 u140 u141 u142 u143 u144 u145 u146 u147 u148 u149 u150 u151 u152 u153 u154 u155 u156 u157 u158 u159 u160 u161 u162 u163 u164 u165 u166 u167 u168 u169 u170 u171 u172 u173 u174 u175 u176 u177 u178 u179 u180 u181 u182 u183 u184 u185 u186 : Value) (W0 V : World) (A3 : Option Addr) (k3 i x y bl : Nat) (l : List Nd) (q0 q1 q2 q3 : Int) (hll2 : l.length ≤ 1000) (hx256 : x < 256) (hy : y < 256) (hyl : 97 ≤ y) (hby : Hid ((97 + (x : Int) / 8 % 3) = (y : Int))) (hlen : Hid (l.length ≤ k3)) (hM3 : Hid (MkAt W0 V (.slice A3 l.length k3) l)) (hL3 : Hid (Blk V bl 28 #[.int .i64 0, .int .u64 q0, .int .u64 q1, .int .u64 q2, .int .u64 q3, .int .i64 0, .int .i64 0, .slice none 0 0])) (hq : Hid (U64 q0 ∧ U64 q1 ∧ U64 q2 ∧ U64 q3)) (Q : Exit → Act → World → Prop) (hP : ∀ ch (a : Act) N v w', Q (.panic ch) (a.put N v) w' → Q (.panic ch) a w') (hQ : ∀ a' w', EndS c0 c1 c2 c187 c188 c189 c190 c191 c192 c193 c194 W0 i l.length a' w' → Q .normal a' w') (h8 : (x : Int) % 8 = 3) (hn : 2 ≤ l.length) :
    Code.wp Try.prog (thenOf mkS0) Q ⟨#[c0, c1, c2, .slice A3 l.length k3, .int .i64 i, .int .i64 x, .int .i64 l.length, .pointer (some ⟨bl, 0, none⟩), u8, u9, u10, u11, u12, u13, u14, u15, u16, u17, u18, u19, u20, u21, u22, u23, u24, u25, u26, u27, u28, u29, u30, u31, u32, u33, u34, u35, u36, u37, u38, u39, u40, u41, u42, u43, u44, u45, u46, u47, u48, u49, u50, u51, u52, u53, u54, u55, u56, u57, u58, u59, u60, u61, u62, u63, u64, u65, u66, u67, u68, u69, u70, u71, u72, u73, u74, u75, u76, u77, u78, u79, u80, u81, u82, u83, u84, u85, u86, u87, u88, u89, u90, u91, u92, u93, u94, u95, u96, u97, u98, u99, u100, u101, u102, u103, u104, u105, u106, u107, u108, u109, u110, u111, u112, u113, u114, u115, u116, u117, u118, u119, u120, u121, u122, u123, u124, u125, u126, u127, u128, u129, u130, u131, u132, u133, u134, u135, u136, u137, u138, u139, u140, u141, u142, u143, u144, u145, u146, u147, u148, u149, u150, u151, u152, u153, u154, u155, u156, u157, u158, u159, u160, u161, u162, u163, u164, u165, u166, u167, u168, u169, u170, u171, u172, u173, u174, u175, u176, u177, u178, u179, u180, u181, u182, u183, u184, u185, u186, c187, c188, c189, c190, c191, c192, c193, c194], []⟩ V := by
  conv => arg 2; whnf
  have hma := Lib.hid (show ∀ (op : Int) (A : Option Addr) (n c : Nat) (ks : List Nd) (w : World), Calls Try.prog 15 #[.int .i64 op, .slice A n c] w fun e w' => e = .returned (.agg #[.int .i64 op, .int .u64 0, .int .u64 0, .int .u64 0, .int .u64 0, .int .i64 0, .int .i64 0, .slice A n c]) ∧ Below w.heap.size w w' from fun op A n c ks w => many_c op A n c ks w)
  obtain ⟨m, hm⟩ : ∃ m, m + 2 = l.length := ⟨l.length - 2, by omega⟩
  obtain ⟨m1, hmm⟩ : ∃ m1, m1 = m + 1 := ⟨_, rfl⟩
  obtain ⟨ad, g, A', c', k', z, hA, had, hgl, hz, hlz, hNz, d0, d1, d2, d3, d4, d5, d6, d7⟩ := hM3.out.elem (m := m) (by omega)
  obtain ⟨ad2, g2, A2, c2, k2, z2, hA2, had2, hgl2, hz2, hlz2, hNz2, f0, f1, f2, f3, f4, f5, f6, f7⟩ := hM3.out.elem (m := m1) (by omega)
  subst hA
  injection hA2 with hA2
  subst hA2
  have hg2 : g2 = g := by rw [had] at had2; injection had2 with h _; exact h.symm
  subst hg2
  have hadH := Lib.hid had
  have hNzH := Lib.hid hNz
  have hNzH2 := Lib.hid hNz2
  have hgz := Lib.hid (hM3.out.g z hz)
  have hgz2 := Lib.hid (hM3.out.g z2 hz2)
  have hlc := (Kd.R_reads' hM3.out.r).2.1
  have hm1 : (l.length : Int) - 2 = (m : Int) := by omega
  have hm2 : (l.length : Int) - 1 = (m1 : Int) := by omega
  have hm3 : (0 : Int) ≤ (m : Int) := by omega
  have hm4 : (m : Int) < (l.length : Int) := by omega
  have hm5 : (0 : Int) ≤ (m1 : Int) := by omega
  have hm6 : (m1 : Int) < (l.length : Int) := by omega
  have hm7 : (m1 : Int) ≤ (k3 : Int) := by omega
  have hm8 : m1 ≤ k3 := by omega
  have hm9 : (m : Int) < (m1 : Int) := by omega
  have hwmH := Lib.hid (wrap64_nat m (by omega))
  have hwmH1 := Lib.hid (wrap64_nat m1 (by omega))
  have hm10 : m1 ≤ l.length := by omega
  have hm11 : m < m1 := by omega
  have hm13 : m1 ≤ l.length + 1 := by omega
  have hn1 : 1 < l.length := by omega
  have hn2 : decide (1 < l.length) = true := decide_eq_true hn1
  have hmH := Lib.hid hm
  have hmmH := Lib.hid hmm
  have hE1 := Lib.hid (show elemC V (ad.add (m * 8)) z (.slice A' k' c') from ⟨d0, d1, d2, d3, d4, d5, d6, d7⟩)
  have hE2 := Lib.hid (show elemC V (ad.add (m1 * 8)) z2 (.slice A2 k2 c2) from ⟨f0, f1, f2, f3, f4, f5, f6, f7⟩)
  clear had hNz hNz2 hn hm hmm hz hz2 had2 hlz hlz2 d0 d1 d2 d3 d4 d5 d6 d7 f0 f1 f2 f3 f4 f5 f6 f7 hlc hgl2
  go_upto_region 10 with (fail)
  refine start_ (n := 14) (S := (fun w' => elemC w' (ad.add (m * 8)) z (.slice A' k' c') ∧ elemC w' (ad.add (m1 * 8)) z2 (.slice A2 k2 c2))) (ds := [13]) #[false, false, false, false, false, false, false, false, false, false, false, false, false, false] (by kernel_rfl) rfl rfl ?_ (fun hHeld => ?_)
  · exact ⟨hE1.out, hE2.out⟩
  have hD0 := Lib.hid (below_drew1 (Below.refl V.heap.size V))
  have hW0 : Hid (elemC V.drew (ad.add (m * 8)) z (.slice A' k' c') ∧ elemC V.drew (ad.add (m1 * 8)) z2 (.slice A2 k2 c2)) := Lib.hid ⟨hE1.out, hE2.out⟩
  generalize V.drew = X0 at *
  have hwm : Go.RowKit.wrap64 (m : Int) = (m : Int) := hwmH.out
  have hwm1 : Go.RowKit.wrap64 (m1 : Int) = (m1 : Int) := hwmH1.out
  refine pure_ (i := 0) (N := (some 45)) (v := ?_) (a' := ?_) #[true, false, false, false, false, false, false, false, false, false, false, false, false, false] rfl rfl (by kernel_rfl) (fun _ _ _ h => hP _ _ _ _ _ h) (Or.inl ⟨by rfl, ?_⟩) ?_ ?_
  rotate_left
  · intro w'
    go_simp
    with_reducible rfl
  rotate_left
  · simp only [Act.put, List.setIfInBounds_toArray, List.set_cons_zero, List.set_cons_succ, i64_w, i32_w]
    rfl
  refine pure_ (i := 1) (N := (some 46)) (v := ?_) (a' := ?_) #[true, true, false, false, false, false, false, false, false, false, false, false, false, false] rfl rfl (by kernel_rfl) (fun _ _ _ h => hP _ _ _ _ _ h) (Or.inl ⟨by rfl, ?_⟩) ?_ ?_
  rotate_left
  · intro w'
    go_simp
    with_reducible rfl
  rotate_left
  · simp only [Act.put, List.setIfInBounds_toArray, List.set_cons_zero, List.set_cons_succ, i64_w, i32_w]
    rfl
  refine pure_ (i := 2) (N := (some 47)) (v := ?_) (a' := ?_) #[true, true, true, false, false, false, false, false, false, false, false, false, false, false] rfl rfl (by kernel_rfl) (fun _ _ _ h => hP _ _ _ _ _ h) (Or.inl ⟨by rfl, ?_⟩) ?_ ?_
  rotate_left
  · intro w'
    go_simp
    with_reducible rfl
  rotate_left
  · simp only [Act.put, List.setIfInBounds_toArray, List.set_cons_zero, List.set_cons_succ, i64_w, i32_w]
    rfl
  refine pure_ (i := 3) (N := (some 48)) (v := ?_) (a' := ?_) #[true, true, true, true, false, false, false, false, false, false, false, false, false, false] rfl rfl (by kernel_rfl) (fun _ _ _ h => hP _ _ _ _ _ h) (Or.inl ⟨by rfl, ?_⟩) ?_ ?_
  rotate_left
  · intro w'
    go_simp
    with_reducible rfl
  rotate_left
  · simp only [Act.put, List.setIfInBounds_toArray, List.set_cons_zero, List.set_cons_succ, i64_w, i32_w]
    rfl
  refine take_ (i := 4) (N := (some 49)) (v := ?_) (a' := ?_) #[true, true, true, true, true, false, false, false, false, false, false, false, false, false] rfl rfl (by kernel_rfl) (fun _ _ _ h => hP _ _ _ _ _ h) (Or.inl ⟨by rfl, ?_⟩) hHeld ?_ ?_
  rotate_left
  · intro w' ⟨⟨e0, e1, e2, e3, e4, e5, e6, e7⟩, _⟩
    go_simp
    with_reducible rfl
  rotate_left
  · simp only [Act.put, List.setIfInBounds_toArray, List.set_cons_zero, List.set_cons_succ, i64_w, i32_w]
    rfl
  refine pure_ (i := 5) (N := (some 50)) (v := ?_) (a' := ?_) #[true, true, true, true, true, true, false, false, false, false, false, false, false, false] rfl rfl (by kernel_rfl) (fun _ _ _ h => hP _ _ _ _ _ h) (Or.inl ⟨by rfl, ?_⟩) ?_ ?_
  rotate_left
  · intro w'
    go_simp
    with_reducible rfl
  rotate_left
  · simp only [Act.put, List.setIfInBounds_toArray, List.set_cons_zero, List.set_cons_succ, i64_w, i32_w]
    rfl
  refine pure_ (i := 6) (N := (some 51)) (v := ?_) (a' := ?_) #[true, true, true, true, true, true, true, false, false, false, false, false, false, false] rfl rfl (by kernel_rfl) (fun _ _ _ h => hP _ _ _ _ _ h) (Or.inl ⟨by rfl, ?_⟩) ?_ ?_
  rotate_left
  · intro w'
    go_simp
    with_reducible rfl
  rotate_left
  · simp only [Act.put, List.setIfInBounds_toArray, List.set_cons_zero, List.set_cons_succ, i64_w, i32_w]
    rfl
  refine pure_ (i := 7) (N := (some 52)) (v := ?_) (a' := ?_) #[true, true, true, true, true, true, true, true, false, false, false, false, false, false] rfl rfl (by kernel_rfl) (fun _ _ _ h => hP _ _ _ _ _ h) (Or.inl ⟨by rfl, ?_⟩) ?_ ?_
  rotate_left
  · intro w'
    go_simp
    with_reducible rfl
  rotate_left
  · simp only [Act.put, List.setIfInBounds_toArray, List.set_cons_zero, List.set_cons_succ, i64_w, i32_w]
    rfl
  refine pure_ (i := 8) (N := (some 53)) (v := ?_) (a' := ?_) #[true, true, true, true, true, true, true, true, true, false, false, false, false, false] rfl rfl (by kernel_rfl) (fun _ _ _ h => hP _ _ _ _ _ h) (Or.inl ⟨by rfl, ?_⟩) ?_ ?_
  rotate_left
  · intro w'
    go_simp
    with_reducible rfl
  rotate_left
  · simp only [Act.put, List.setIfInBounds_toArray, List.set_cons_zero, List.set_cons_succ, i64_w, i32_w]
    rfl
  refine take_ (i := 9) (N := (some 54)) (v := ?_) (a' := ?_) #[true, true, true, true, true, true, true, true, true, true, false, false, false, false] rfl rfl (by kernel_rfl) (fun _ _ _ h => hP _ _ _ _ _ h) (Or.inl ⟨by rfl, ?_⟩) hHeld ?_ ?_
  rotate_left
  · intro w' ⟨_, ⟨e0, e1, e2, e3, e4, e5, e6, e7⟩⟩
    go_simp
    with_reducible rfl
  rotate_left
  · simp only [Act.put, List.setIfInBounds_toArray, List.set_cons_zero, List.set_cons_succ, i64_w, i32_w]
    rfl
  refine join_ (σ := Nat × Nat) 1 #[true, true, true, true, true, true, true, true, true, true, true, true, true, false] (fun s_ => [(55, .slice (some ⟨s_.1, 0, none⟩) 2 2), (56, .agg #[.int .i64 1, .int .u64 0, .int .u64 0, .int .u64 0, .int .u64 0, .int .i64 0, .int .i64 0, .slice (some ⟨s_.1, 0, none⟩) 2 2]), (8, .pointer (some ⟨s_.2, 0, none⟩))]) (fun s_ w' => Pair V w' z z2 (.slice A' k' c') (.slice A2 k2 c2) s_.1 s_.2) ?_ ?_
  rotate_left
  · intro hCont
    refine two_ (i := 10) (j := 12) (Ni := (some 55)) (Nj := (some 8)) #[true, true, true, true, true, true, true, true, true, true, true, false, false, false] #[true, true, true, true, true, true, true, true, true, true, false, false, true, false] rfl rfl rfl rfl (by kernel_rfl) (by decide) (by decide) (fun K hK => ?_) (fun K hK => ?_)
    · skip
      refine value_ (w1 := ?_) (v := ?_) (by rfl) rfl ?_ ?_
      rotate_left 2
      · go_simp
        constructor
        · rfl
        · rfl
      have hD1 := Lib.hid (below_alloc hD0.out (.cells (two16 z z2 (.slice A' k' c') (.slice A2 k2 c2)) 28))
      have hG1 := Lib.hid (Blk.new X0 28 (two16 z z2 (.slice A' k' c') (.slice A2 k2 c2)))
      have hW1 : Hid (elemC (X0.alloc (.cells (two16 z z2 (.slice A' k' c') (.slice A2 k2 c2)) 28)) (ad.add (m * 8)) z (.slice A' k' c') ∧ elemC (X0.alloc (.cells (two16 z z2 (.slice A' k' c') (.slice A2 k2 c2)) 28)) (ad.add (m1 * 8)) z2 (.slice A2 k2 c2)) := Lib.hid ⟨hW0.out.1.below (below_alloc (Below.refl _ _) _), hW0.out.2.below (below_alloc (Below.refl _ _) _)⟩
      refine hK.out _ _ hW1.out (fun hHeld => ?_)
      clear hK K
      refine norm_ (a' := ?_) ?_ ?_
      rotate_left
      · show Act.put _ (some 55) _ = _
        simp only [Act.put, List.setIfInBounds_toArray, List.set_cons_zero, List.set_cons_succ, i64_w, i32_w]
        rfl
      have hgS : V.heap.size ≤ X0.heap.size := hD0.out.size
      generalize X0.alloc (.cells (two16 z z2 (.slice A' k' c') (.slice A2 k2 c2)) 28) = X1 at *
      generalize X0.heap.size = G at *
      refine two_ (i := 11) (j := 12) (Ni := (some 56)) (Nj := (some 8)) #[true, true, true, true, true, true, true, true, true, true, true, true, false, false] #[true, true, true, true, true, true, true, true, true, true, true, false, true, false] rfl rfl rfl rfl (by kernel_rfl) (by decide) (by decide) (fun K hK => ?_) (fun K hK => ?_)
      · skip
        refine goes_ Try.func15 (by kernel_rfl) rfl #[.int .i64 1, .slice (some ⟨G, 0, none⟩) 2 2] (by rfl) rfl rfl (by simp only [List.map_toArray, List.map_cons, List.map_nil]; rfl) ?_
        refine (hma.out 1 (some ⟨G, 0, none⟩) 2 2 [z, z2] _).mono ?_
        rintro e X2 ⟨rfl, hbb⟩
        refine ⟨_, rfl, ?_⟩
        have hD2 := Lib.hid (below_then hD1.out hD1.out.size hbb)
        have hG2 := Lib.hid (hG1.out.below hbb hG1.out.lt)
        have hW2 : Hid (elemC X2 (ad.add (m * 8)) z (.slice A' k' c') ∧ elemC X2 (ad.add (m1 * 8)) z2 (.slice A2 k2 c2)) := Lib.hid ⟨hW1.out.1.below hbb, hW1.out.2.below hbb⟩
        refine hK.out _ _ hW2.out (fun hHeld => ?_)
        clear hK K
        refine norm_ (a' := ?_) ?_ ?_
        rotate_left
        · show Act.put _ (some 56) _ = _
          simp only [Act.put, List.setIfInBounds_toArray, List.set_cons_zero, List.set_cons_succ, i64_w, i32_w]
          rfl
        refine one_ (i := 12) (N := (some 8)) #[true, true, true, true, true, true, true, true, true, true, true, true, true, false] rfl rfl (by kernel_rfl) (by decide) (fun K hK => ?_)
        refine value_ (w1 := ?_) (v := ?_) (by rfl) rfl ?_ ?_
        rotate_left 2
        · go_simp
          constructor
          · rfl
          · rfl
        have hD3 := below_alloc hD2.out (.cells #[.int .i64 0, .int .u64 0, .int .u64 0, .int .u64 0, .int .u64 0, .int .i64 0, .int .i64 0, .slice none 0 0] 28)
        have hW3 : Hid (elemC (X2.alloc (.cells #[.int .i64 0, .int .u64 0, .int .u64 0, .int .u64 0, .int .u64 0, .int .i64 0, .int .i64 0, .slice none 0 0] 28)) (ad.add (m * 8)) z (.slice A' k' c') ∧ elemC (X2.alloc (.cells #[.int .i64 0, .int .u64 0, .int .u64 0, .int .u64 0, .int .u64 0, .int .i64 0, .int .i64 0, .slice none 0 0] 28)) (ad.add (m1 * 8)) z2 (.slice A2 k2 c2)) := Lib.hid ⟨hW2.out.1.below (below_alloc (Below.refl _ _) _), hW2.out.2.below (below_alloc (Below.refl _ _) _)⟩
        have hF3 : Pair V (X2.alloc (.cells #[.int .i64 0, .int .u64 0, .int .u64 0, .int .u64 0, .int .u64 0, .int .i64 0, .int .i64 0, .slice none 0 0] 28)) z z2 (.slice A' k' c') (.slice A2 k2 c2) G X2.heap.size := ⟨hD3, hG2.out.alloc _, Blk.new X2 28 #[.int .i64 0, .int .u64 0, .int .u64 0, .int .u64 0, .int .u64 0, .int .i64 0, .int .i64 0, .slice none 0 0], Nat.ne_of_lt hG2.out.lt, hgS, hD2.out.size⟩
        refine hK.out _ _ hW3.out (fun hHeld => ?_)
        clear hK K
        refine norm_ (a' := ?_) ?_ ?_
        rotate_left
        · show Act.put _ (some 8) _ = _
          simp only [Act.put, List.setIfInBounds_toArray, List.set_cons_zero, List.set_cons_succ, i64_w, i32_w]
          rfl
        exact norm_ (by simp only [putAll, Act.put, List.setIfInBounds_toArray, List.set_cons_zero, List.set_cons_succ]) (hCont (G, X2.heap.size) _ hF3)
      · skip
        refine value_ (w1 := ?_) (v := ?_) (by rfl) rfl ?_ ?_
        rotate_left 2
        · go_simp
          constructor
          · rfl
          · rfl
        have hD2 := Lib.hid (below_alloc hD1.out (.cells #[.int .i64 0, .int .u64 0, .int .u64 0, .int .u64 0, .int .u64 0, .int .i64 0, .int .i64 0, .slice none 0 0] 28))
        have hG2 := Lib.hid (hG1.out.alloc (.cells #[.int .i64 0, .int .u64 0, .int .u64 0, .int .u64 0, .int .u64 0, .int .i64 0, .int .i64 0, .slice none 0 0] 28))
        have hC2 := Lib.hid (Blk.new X1 28 #[.int .i64 0, .int .u64 0, .int .u64 0, .int .u64 0, .int .u64 0, .int .i64 0, .int .i64 0, .slice none 0 0])
        have hW2 : Hid (elemC (X1.alloc (.cells #[.int .i64 0, .int .u64 0, .int .u64 0, .int .u64 0, .int .u64 0, .int .i64 0, .int .i64 0, .slice none 0 0] 28)) (ad.add (m * 8)) z (.slice A' k' c') ∧ elemC (X1.alloc (.cells #[.int .i64 0, .int .u64 0, .int .u64 0, .int .u64 0, .int .u64 0, .int .i64 0, .int .i64 0, .slice none 0 0] 28)) (ad.add (m1 * 8)) z2 (.slice A2 k2 c2)) := Lib.hid ⟨hW1.out.1.below (below_alloc (Below.refl _ _) _), hW1.out.2.below (below_alloc (Below.refl _ _) _)⟩
        refine hK.out _ _ hW2.out (fun hHeld => ?_)
        clear hK K
        refine norm_ (a' := ?_) ?_ ?_
        rotate_left
        · show Act.put _ (some 8) _ = _
          simp only [Act.put, List.setIfInBounds_toArray, List.set_cons_zero, List.set_cons_succ, i64_w, i32_w]
          rfl
        have hbS : V.heap.size ≤ X1.heap.size := hD1.out.size
        have hbn : G ≠ X1.heap.size := Nat.ne_of_lt hG1.out.lt
        generalize X1.alloc (.cells #[.int .i64 0, .int .u64 0, .int .u64 0, .int .u64 0, .int .u64 0, .int .i64 0, .int .i64 0, .slice none 0 0] 28) = X2 at *
        generalize X1.heap.size = B at *
        refine one_ (i := 11) (N := (some 56)) #[true, true, true, true, true, true, true, true, true, true, true, true, true, false] rfl rfl (by kernel_rfl) (by decide) (fun K hK => ?_)
        refine goes_ Try.func15 (by kernel_rfl) rfl #[.int .i64 1, .slice (some ⟨G, 0, none⟩) 2 2] (by rfl) rfl rfl (by simp only [List.map_toArray, List.map_cons, List.map_nil]; rfl) ?_
        refine (hma.out 1 (some ⟨G, 0, none⟩) 2 2 [z, z2] _).mono ?_
        rintro e X3 ⟨rfl, hbb⟩
        refine ⟨_, rfl, ?_⟩
        have hW3 : Hid (elemC X3 (ad.add (m * 8)) z (.slice A' k' c') ∧ elemC X3 (ad.add (m1 * 8)) z2 (.slice A2 k2 c2)) := Lib.hid ⟨hW2.out.1.below hbb, hW2.out.2.below hbb⟩
        have hF3 : Pair V X3 z z2 (.slice A' k' c') (.slice A2 k2 c2) G B := ⟨below_then hD2.out hD2.out.size hbb, hG2.out.below hbb hG2.out.lt, hC2.out.below hbb hC2.out.lt, hbn, hgS, hbS⟩
        refine hK.out _ _ hW3.out (fun hHeld => ?_)
        clear hK K
        refine norm_ (a' := ?_) ?_ ?_
        rotate_left
        · show Act.put _ (some 56) _ = _
          simp only [Act.put, List.setIfInBounds_toArray, List.set_cons_zero, List.set_cons_succ, i64_w, i32_w]
          rfl
        exact norm_ (by simp only [putAll, Act.put, List.setIfInBounds_toArray, List.set_cons_zero, List.set_cons_succ]) (hCont (G, B) _ hF3)
    · skip
      refine value_ (w1 := ?_) (v := ?_) (by rfl) rfl ?_ ?_
      rotate_left 2
      · go_simp
        constructor
        · rfl
        · rfl
      have hD1 := Lib.hid (below_alloc hD0.out (.cells #[.int .i64 0, .int .u64 0, .int .u64 0, .int .u64 0, .int .u64 0, .int .i64 0, .int .i64 0, .slice none 0 0] 28))
      have hC1 := Lib.hid (Blk.new X0 28 #[.int .i64 0, .int .u64 0, .int .u64 0, .int .u64 0, .int .u64 0, .int .i64 0, .int .i64 0, .slice none 0 0])
      have hW1 : Hid (elemC (X0.alloc (.cells #[.int .i64 0, .int .u64 0, .int .u64 0, .int .u64 0, .int .u64 0, .int .i64 0, .int .i64 0, .slice none 0 0] 28)) (ad.add (m * 8)) z (.slice A' k' c') ∧ elemC (X0.alloc (.cells #[.int .i64 0, .int .u64 0, .int .u64 0, .int .u64 0, .int .u64 0, .int .i64 0, .int .i64 0, .slice none 0 0] 28)) (ad.add (m1 * 8)) z2 (.slice A2 k2 c2)) := Lib.hid ⟨hW0.out.1.below (below_alloc (Below.refl _ _) _), hW0.out.2.below (below_alloc (Below.refl _ _) _)⟩
      refine hK.out _ _ hW1.out (fun hHeld => ?_)
      clear hK K
      refine norm_ (a' := ?_) ?_ ?_
      rotate_left
      · show Act.put _ (some 8) _ = _
        simp only [Act.put, List.setIfInBounds_toArray, List.set_cons_zero, List.set_cons_succ, i64_w, i32_w]
        rfl
      have hbS : V.heap.size ≤ X0.heap.size := hD0.out.size
      generalize X0.alloc (.cells #[.int .i64 0, .int .u64 0, .int .u64 0, .int .u64 0, .int .u64 0, .int .i64 0, .int .i64 0, .slice none 0 0] 28) = X1 at *
      generalize X0.heap.size = B at *
      refine one_ (i := 10) (N := (some 55)) #[true, true, true, true, true, true, true, true, true, true, true, false, true, false] rfl rfl (by kernel_rfl) (by decide) (fun K hK => ?_)
      refine value_ (w1 := ?_) (v := ?_) (by rfl) rfl ?_ ?_
      rotate_left 2
      · go_simp
        constructor
        · rfl
        · rfl
      have hD2 := Lib.hid (below_alloc hD1.out (.cells (two16 z z2 (.slice A' k' c') (.slice A2 k2 c2)) 28))
      have hG2 := Lib.hid (Blk.new X1 28 (two16 z z2 (.slice A' k' c') (.slice A2 k2 c2)))
      have hC2 := Lib.hid (hC1.out.alloc (.cells (two16 z z2 (.slice A' k' c') (.slice A2 k2 c2)) 28))
      have hW2 : Hid (elemC (X1.alloc (.cells (two16 z z2 (.slice A' k' c') (.slice A2 k2 c2)) 28)) (ad.add (m * 8)) z (.slice A' k' c') ∧ elemC (X1.alloc (.cells (two16 z z2 (.slice A' k' c') (.slice A2 k2 c2)) 28)) (ad.add (m1 * 8)) z2 (.slice A2 k2 c2)) := Lib.hid ⟨hW1.out.1.below (below_alloc (Below.refl _ _) _), hW1.out.2.below (below_alloc (Below.refl _ _) _)⟩
      refine hK.out _ _ hW2.out (fun hHeld => ?_)
      clear hK K
      refine norm_ (a' := ?_) ?_ ?_
      rotate_left
      · show Act.put _ (some 55) _ = _
        simp only [Act.put, List.setIfInBounds_toArray, List.set_cons_zero, List.set_cons_succ, i64_w, i32_w]
        rfl
      have hgS : V.heap.size ≤ X1.heap.size := hD1.out.size
      have hbn : X1.heap.size ≠ B := Nat.ne_of_gt hC1.out.lt
      generalize X1.alloc (.cells (two16 z z2 (.slice A' k' c') (.slice A2 k2 c2)) 28) = X2 at *
      generalize X1.heap.size = G at *
      refine one_ (i := 11) (N := (some 56)) #[true, true, true, true, true, true, true, true, true, true, true, true, true, false] rfl rfl (by kernel_rfl) (by decide) (fun K hK => ?_)
      refine goes_ Try.func15 (by kernel_rfl) rfl #[.int .i64 1, .slice (some ⟨G, 0, none⟩) 2 2] (by rfl) rfl rfl (by simp only [List.map_toArray, List.map_cons, List.map_nil]; rfl) ?_
      refine (hma.out 1 (some ⟨G, 0, none⟩) 2 2 [z, z2] _).mono ?_
      rintro e X3 ⟨rfl, hbb⟩
      refine ⟨_, rfl, ?_⟩
      have hW3 : Hid (elemC X3 (ad.add (m * 8)) z (.slice A' k' c') ∧ elemC X3 (ad.add (m1 * 8)) z2 (.slice A2 k2 c2)) := Lib.hid ⟨hW2.out.1.below hbb, hW2.out.2.below hbb⟩
      have hF3 : Pair V X3 z z2 (.slice A' k' c') (.slice A2 k2 c2) G B := ⟨below_then hD2.out hD2.out.size hbb, hG2.out.below hbb hG2.out.lt, hC2.out.below hbb hC2.out.lt, hbn, hgS, hbS⟩
      refine hK.out _ _ hW3.out (fun hHeld => ?_)
      clear hK K
      refine norm_ (a' := ?_) ?_ ?_
      rotate_left
      · show Act.put _ (some 56) _ = _
        simp only [Act.put, List.setIfInBounds_toArray, List.set_cons_zero, List.set_cons_succ, i64_w, i32_w]
        rfl
      exact norm_ (by simp only [putAll, Act.put, List.setIfInBounds_toArray, List.set_cons_zero, List.set_cons_succ]) (hCont (G, B) _ hF3)
  rintro ⟨G, B⟩ X4 hF
  refine norm_ (a' := ?_) ?_ ?_
  rotate_left
  · simp only [putAll, Act.put, List.setIfInBounds_toArray, List.set_cons_zero, List.set_cons_succ]
    rfl
  have hFH := Lib.hid hF
  clear hF hW0 hD0
  have c0 := hFH.out.c.cell 0
  have c1 := hFH.out.c.cell 1
  have c2_ := hFH.out.c.cell 2
  have c3_ := hFH.out.c.cell 3
  have c4 := hFH.out.c.cell 4
  have c5 := hFH.out.c.cell 5
  have c6 := hFH.out.c.cell 6
  have c7 := hFH.out.c.cell 7
  have g0 := hFH.out.c.frozen 0
  have g1 := hFH.out.c.frozen 1
  have g2 := hFH.out.c.frozen 2
  have g3 := hFH.out.c.frozen 3
  have g4 := hFH.out.c.frozen 4
  have g5 := hFH.out.c.frozen 5
  have g6 := hFH.out.c.frozen 6
  have g7 := hFH.out.c.frozen 7
  simp only [List.getElem?_toArray, List.getElem?_cons_zero, List.getElem?_cons_succ] at c0 c1 c2_ c3_ c4 c5 c6 c7
  refine last_ (i := 13) (N := none) #[true, true, true, true, true, true, true, true, true, true, true, true, true, true] rfl rfl (by kernel_rfl) (by decide) (fun K hK => ?_)
  refine skip_ (w1 := ?_) (by rfl) rfl ?_ ?_
  rotate_left
  · go_simp
    rfl
  refine hK.out _ _ ?_
  clear hK K
  refine done_ (by kernel_rfl) ?_
  have hX8 : Hid (Blk ((((((((X4.setCell ⟨B, 0, none⟩ (.int .i64 1)).setCell ⟨B, 1, none⟩ (.int .u64 0)).setCell ⟨B, 2, none⟩ (.int .u64 0)).setCell ⟨B, 3, none⟩ (.int .u64 0)).setCell ⟨B, 4, none⟩ (.int .u64 0)).setCell ⟨B, 5, none⟩ (.int .i64 0)).setCell ⟨B, 6, none⟩ (.int .i64 0)).setCell ⟨B, 7, none⟩ (.slice (some ⟨G, 0, none⟩) 2 2)) B 28 #[.int .i64 1, .int .u64 0, .int .u64 0, .int .u64 0, .int .u64 0, .int .i64 0, .int .i64 0, .slice (some ⟨G, 0, none⟩) 2 2]) := Lib.hid (set8 hFH.out.c _ _ _ _ _ _ _ _)
  have hG8 : Hid (Blk ((((((((X4.setCell ⟨B, 0, none⟩ (.int .i64 1)).setCell ⟨B, 1, none⟩ (.int .u64 0)).setCell ⟨B, 2, none⟩ (.int .u64 0)).setCell ⟨B, 3, none⟩ (.int .u64 0)).setCell ⟨B, 4, none⟩ (.int .u64 0)).setCell ⟨B, 5, none⟩ (.int .i64 0)).setCell ⟨B, 6, none⟩ (.int .i64 0)).setCell ⟨B, 7, none⟩ (.slice (some ⟨G, 0, none⟩) 2 2)) G 28 ((two16 z z2 (.slice A' k' c') (.slice A2 k2 c2)))) := Lib.hid (far8 hFH.out.g hFH.out.ne _ _ _ _ _ _ _ _)
  have hB8 : Hid (Below V.heap.size V ((((((((X4.setCell ⟨B, 0, none⟩ (.int .i64 1)).setCell ⟨B, 1, none⟩ (.int .u64 0)).setCell ⟨B, 2, none⟩ (.int .u64 0)).setCell ⟨B, 3, none⟩ (.int .u64 0)).setCell ⟨B, 4, none⟩ (.int .u64 0)).setCell ⟨B, 5, none⟩ (.int .i64 0)).setCell ⟨B, 6, none⟩ (.int .i64 0)).setCell ⟨B, 7, none⟩ (.slice (some ⟨G, 0, none⟩) 2 2))) := Lib.hid (below8 hFH.out.b hFH.out.bl _ _ _ _ _ _ _ _)
  have hGl := Lib.hid hFH.out.gl
  clear hwm hwm1 hHeld hFH c0 c1 c2_ c3_ c4 c5 c6 c7 g0 g1 g2 g3 g4 g5 g6 g7
  generalize ((((((((X4.setCell ⟨B, 0, none⟩ (.int .i64 1)).setCell ⟨B, 1, none⟩ (.int .u64 0)).setCell ⟨B, 2, none⟩ (.int .u64 0)).setCell ⟨B, 3, none⟩ (.int .u64 0)).setCell ⟨B, 4, none⟩ (.int .u64 0)).setCell ⟨B, 5, none⟩ (.int .i64 0)).setCell ⟨B, 6, none⟩ (.int .i64 0)).setCell ⟨B, 7, none⟩ (.slice (some ⟨G, 0, none⟩) 2 2)) = X5 at *
  have hN8 := Lib.hid (mk_two 1 hM3.out hgl hGl.out hNzH.out hNzH2.out hG8.out hB8.out)
  have hM8 : Hid (MkAt W0 X5 (.slice (some ⟨g2, 0, none⟩) m1 k3) (l.take m1)) := (by have h := (hM3.out.below hB8.out).take (m := m1) hm10; rw [hadH.out] at h; exact Lib.hid h)
  have e0 := hX8.out.cell 0
  have e1 := hX8.out.cell 1
  have e2 := hX8.out.cell 2
  have e3 := hX8.out.cell 3
  have e4 := hX8.out.cell 4
  have e5 := hX8.out.cell 5
  have e6 := hX8.out.cell 6
  have e7 := hX8.out.cell 7
  simp only [List.getElem?_toArray, List.getElem?_cons_zero, List.getElem?_cons_succ] at e0 e1 e2 e3 e4 e5 e6 e7
  go_wp2_with ((with_reducible refine gate_store (t := 28) (p := 65) rfl ?_); refine st8 (W0 := W0) (g := g2) (m := m) (o' := m * 8) (x' := .mk 1 0 0 0 0 0 0 [z, z2]) (v' := .slice (some ⟨G, 0, none⟩) 2 2) 65 64 rfl rfl rfl (by show Value.pointer (some (ad.add (m * 8))) = _; rw [hadH.out, add_off0]) rfl rfl rfl rfl rfl hM8.out hm11 hN8.out ((Gd_mk _ _ _ _ _ _ _ _).2 ⟨by simp, ⟨by decide, by decide⟩, ⟨by decide, by decide⟩, ⟨u64_0, u64_0, u64_0, u64_0⟩, fun k hk => by rcases List.mem_cons.1 hk with rfl | hk; exact hgz.out; rw [List.mem_singleton.1 hk]; exact hgz2.out⟩) ?_; intro w9 hMN)
  unfold EndS; (repeat apply Exists.intro); exact ⟨⟨(l.take m1).set m (.mk 1 0 0 0 0 0 0 [z, z2]), by rw [List.length_set, List.length_take, Nat.min_eq_left hm10]; exact hm13, Lib.hid (by rw [hadH.out]; exact hMN.out)⟩, rfl⟩
set_option maxRecDepth 20000 in
set_option maxHeartbeats 4000000 in
theorem mkT4 (c0 c1 c2 c187 c188 c189 c190 c191 c192 c193 c194 : Value) (u8 u9 u10 u11 u12 u13 u14 u15 u16 u17 u18 u19 u20 u21 u22 u23 u24 u25 u26 u27 u28 u29 u30 u31 u32 u33 u34 u35 u36 u37 u38 u39 u40 u41 u42 u43 u44 u45 u46 u47 u48 u49 u50 u51 u52 u53 u54 u55 u56 u57 u58 u59 u60 u61 u62 u63 u64 u65 u66 u67 u68 u69 u70 u71 u72 u73 u74 u75 u76 u77 u78 u79 u80 u81 u82 u83 u84 u85 u86 u87 u88 u89 u90 u91 u92 u93 u94 u95 u96 u97 u98 u99 u100 u101 u102 u103 u104 u105 u106 u107 u108 u109 u110 u111 u112 u113 u114 u115 u116 u117 u118 u119 u120 u121 u122 u123 u124 u125 u126 u127 u128 u129 u130 u131 u132 u133 u134 u135 u136 u137 u138 u139 u140 u141 u142 u143 u144 u145 u146 u147 u148 u149 u150 u151 u152 u153 u154 u155 u156 u157 u158 u159 u160 u161 u162 u163 u164 u165 u166 u167 u168 u169 u170 u171 u172 u173 u174 u175 u176 u177 u178 u179 u180 u181 u182 u183 u184 u185 u186 : Value) (W0 V : World) (A3 : Option Addr) (k3 i x y bl : Nat) (l : List Nd) (q0 q1 q2 q3 : Int) (hll2 : l.length ≤ 1000) (hx256 : x < 256) (hy : y < 256) (hyl : 97 ≤ y) (hby : Hid ((97 + (x : Int) / 8 % 3) = (y : Int))) (hlen : Hid (l.length ≤ k3)) (hM3 : Hid (MkAt W0 V (.slice A3 l.length k3) l)) (hL3 : Hid (Blk V bl 28 #[.int .i64 0, .int .u64 q0, .int .u64 q1, .int .u64 q2, .int .u64 q3, .int .i64 0, .int .i64 0, .slice none 0 0])) (hq : Hid (U64 q0 ∧ U64 q1 ∧ U64 q2 ∧ U64 q3)) (Q : Exit → Act → World → Prop) (hP : ∀ ch (a : Act) N v w', Q (.panic ch) (a.put N v) w' → Q (.panic ch) a w') (hQ : ∀ a' w', EndS c0 c1 c2 c187 c188 c189 c190 c191 c192 c193 c194 W0 i l.length a' w' → Q .normal a' w') (h8 : (x : Int) % 8 = 4) (hn : 2 ≤ l.length) :
    Code.wp Try.prog (thenOf mkS1) Q ⟨#[c0, c1, c2, .slice A3 l.length k3, .int .i64 i, .int .i64 x, .int .i64 l.length, .pointer (some ⟨bl, 0, none⟩), u8, u9, u10, u11, u12, u13, u14, u15, u16, u17, u18, u19, u20, u21, u22, u23, u24, u25, u26, u27, u28, u29, u30, u31, u32, u33, u34, u35, u36, u37, u38, u39, u40, u41, u42, u43, u44, u45, u46, u47, u48, u49, u50, u51, u52, u53, u54, u55, u56, u57, u58, u59, u60, u61, u62, u63, u64, u65, u66, u67, u68, u69, u70, u71, u72, u73, u74, u75, u76, u77, u78, u79, u80, u81, u82, u83, u84, u85, u86, u87, u88, u89, u90, u91, u92, u93, u94, u95, u96, u97, u98, u99, u100, u101, u102, u103, u104, u105, u106, u107, u108, u109, u110, u111, u112, u113, u114, u115, u116, u117, u118, u119, u120, u121, u122, u123, u124, u125, u126, u127, u128, u129, u130, u131, u132, u133, u134, u135, u136, u137, u138, u139, u140, u141, u142, u143, u144, u145, u146, u147, u148, u149, u150, u151, u152, u153, u154, u155, u156, u157, u158, u159, u160, u161, u162, u163, u164, u165, u166, u167, u168, u169, u170, u171, u172, u173, u174, u175, u176, u177, u178, u179, u180, u181, u182, u183, u184, u185, u186, c187, c188, c189, c190, c191, c192, c193, c194], []⟩ V := by
  conv => arg 2; whnf
  have hma := Lib.hid (show ∀ (op : Int) (A : Option Addr) (n c : Nat) (ks : List Nd) (w : World), Calls Try.prog 15 #[.int .i64 op, .slice A n c] w fun e w' => e = .returned (.agg #[.int .i64 op, .int .u64 0, .int .u64 0, .int .u64 0, .int .u64 0, .int .i64 0, .int .i64 0, .slice A n c]) ∧ Below w.heap.size w w' from fun op A n c ks w => many_c op A n c ks w)
  obtain ⟨m, hm⟩ : ∃ m, m + 2 = l.length := ⟨l.length - 2, by omega⟩
  obtain ⟨m1, hmm⟩ : ∃ m1, m1 = m + 1 := ⟨_, rfl⟩
  obtain ⟨ad, g, A', c', k', z, hA, had, hgl, hz, hlz, hNz, d0, d1, d2, d3, d4, d5, d6, d7⟩ := hM3.out.elem (m := m) (by omega)
  obtain ⟨ad2, g2, A2, c2, k2, z2, hA2, had2, hgl2, hz2, hlz2, hNz2, f0, f1, f2, f3, f4, f5, f6, f7⟩ := hM3.out.elem (m := m1) (by omega)
  subst hA
  injection hA2 with hA2
  subst hA2
  have hg2 : g2 = g := by rw [had] at had2; injection had2 with h _; exact h.symm
  subst hg2
  have hadH := Lib.hid had
  have hNzH := Lib.hid hNz
  have hNzH2 := Lib.hid hNz2
  have hgz := Lib.hid (hM3.out.g z hz)
  have hgz2 := Lib.hid (hM3.out.g z2 hz2)
  have hlc := (Kd.R_reads' hM3.out.r).2.1
  have hm1 : (l.length : Int) - 2 = (m : Int) := by omega
  have hm2 : (l.length : Int) - 1 = (m1 : Int) := by omega
  have hm3 : (0 : Int) ≤ (m : Int) := by omega
  have hm4 : (m : Int) < (l.length : Int) := by omega
  have hm5 : (0 : Int) ≤ (m1 : Int) := by omega
  have hm6 : (m1 : Int) < (l.length : Int) := by omega
  have hm7 : (m1 : Int) ≤ (k3 : Int) := by omega
  have hm8 : m1 ≤ k3 := by omega
  have hm9 : (m : Int) < (m1 : Int) := by omega
  have hwmH := Lib.hid (wrap64_nat m (by omega))
  have hwmH1 := Lib.hid (wrap64_nat m1 (by omega))
  have hm10 : m1 ≤ l.length := by omega
  have hm11 : m < m1 := by omega
  have hm13 : m1 ≤ l.length + 1 := by omega
  have hn1 : 1 < l.length := by omega
  have hn2 : decide (1 < l.length) = true := decide_eq_true hn1
  have hmH := Lib.hid hm
  have hmmH := Lib.hid hmm
  have hE1 := Lib.hid (show elemC V (ad.add (m * 8)) z (.slice A' k' c') from ⟨d0, d1, d2, d3, d4, d5, d6, d7⟩)
  have hE2 := Lib.hid (show elemC V (ad.add (m1 * 8)) z2 (.slice A2 k2 c2) from ⟨f0, f1, f2, f3, f4, f5, f6, f7⟩)
  clear had hNz hNz2 hn hm hmm hz hz2 had2 hlz hlz2 d0 d1 d2 d3 d4 d5 d6 d7 f0 f1 f2 f3 f4 f5 f6 f7 hlc hgl2
  go_upto_region 14 with (fail)
  refine start_ (n := 14) (S := (fun w' => elemC w' (ad.add (m * 8)) z (.slice A' k' c') ∧ elemC w' (ad.add (m1 * 8)) z2 (.slice A2 k2 c2))) (ds := [13]) #[false, false, false, false, false, false, false, false, false, false, false, false, false, false] (by kernel_rfl) rfl rfl ?_ (fun hHeld => ?_)
  · exact ⟨hE1.out, hE2.out⟩
  have hD0 := Lib.hid (below_drew1 (Below.refl V.heap.size V))
  have hW0 : Hid (elemC V.drew (ad.add (m * 8)) z (.slice A' k' c') ∧ elemC V.drew (ad.add (m1 * 8)) z2 (.slice A2 k2 c2)) := Lib.hid ⟨hE1.out, hE2.out⟩
  generalize V.drew = X0 at *
  have hwm : Go.RowKit.wrap64 (m : Int) = (m : Int) := hwmH.out
  have hwm1 : Go.RowKit.wrap64 (m1 : Int) = (m1 : Int) := hwmH1.out
  refine pure_ (i := 0) (N := (some 74)) (v := ?_) (a' := ?_) #[true, false, false, false, false, false, false, false, false, false, false, false, false, false] rfl rfl (by kernel_rfl) (fun _ _ _ h => hP _ _ _ _ _ h) (Or.inl ⟨by rfl, ?_⟩) ?_ ?_
  rotate_left
  · intro w'
    go_simp
    with_reducible rfl
  rotate_left
  · simp only [Act.put, List.setIfInBounds_toArray, List.set_cons_zero, List.set_cons_succ, i64_w, i32_w]
    rfl
  refine pure_ (i := 1) (N := (some 75)) (v := ?_) (a' := ?_) #[true, true, false, false, false, false, false, false, false, false, false, false, false, false] rfl rfl (by kernel_rfl) (fun _ _ _ h => hP _ _ _ _ _ h) (Or.inl ⟨by rfl, ?_⟩) ?_ ?_
  rotate_left
  · intro w'
    go_simp
    with_reducible rfl
  rotate_left
  · simp only [Act.put, List.setIfInBounds_toArray, List.set_cons_zero, List.set_cons_succ, i64_w, i32_w]
    rfl
  refine pure_ (i := 2) (N := (some 76)) (v := ?_) (a' := ?_) #[true, true, true, false, false, false, false, false, false, false, false, false, false, false] rfl rfl (by kernel_rfl) (fun _ _ _ h => hP _ _ _ _ _ h) (Or.inl ⟨by rfl, ?_⟩) ?_ ?_
  rotate_left
  · intro w'
    go_simp
    with_reducible rfl
  rotate_left
  · simp only [Act.put, List.setIfInBounds_toArray, List.set_cons_zero, List.set_cons_succ, i64_w, i32_w]
    rfl
  refine pure_ (i := 3) (N := (some 77)) (v := ?_) (a' := ?_) #[true, true, true, true, false, false, false, false, false, false, false, false, false, false] rfl rfl (by kernel_rfl) (fun _ _ _ h => hP _ _ _ _ _ h) (Or.inl ⟨by rfl, ?_⟩) ?_ ?_
  rotate_left
  · intro w'
    go_simp
    with_reducible rfl
  rotate_left
  · simp only [Act.put, List.setIfInBounds_toArray, List.set_cons_zero, List.set_cons_succ, i64_w, i32_w]
    rfl
  refine take_ (i := 4) (N := (some 78)) (v := ?_) (a' := ?_) #[true, true, true, true, true, false, false, false, false, false, false, false, false, false] rfl rfl (by kernel_rfl) (fun _ _ _ h => hP _ _ _ _ _ h) (Or.inl ⟨by rfl, ?_⟩) hHeld ?_ ?_
  rotate_left
  · intro w' ⟨⟨e0, e1, e2, e3, e4, e5, e6, e7⟩, _⟩
    go_simp
    with_reducible rfl
  rotate_left
  · simp only [Act.put, List.setIfInBounds_toArray, List.set_cons_zero, List.set_cons_succ, i64_w, i32_w]
    rfl
  refine pure_ (i := 5) (N := (some 79)) (v := ?_) (a' := ?_) #[true, true, true, true, true, true, false, false, false, false, false, false, false, false] rfl rfl (by kernel_rfl) (fun _ _ _ h => hP _ _ _ _ _ h) (Or.inl ⟨by rfl, ?_⟩) ?_ ?_
  rotate_left
  · intro w'
    go_simp
    with_reducible rfl
  rotate_left
  · simp only [Act.put, List.setIfInBounds_toArray, List.set_cons_zero, List.set_cons_succ, i64_w, i32_w]
    rfl
  refine pure_ (i := 6) (N := (some 80)) (v := ?_) (a' := ?_) #[true, true, true, true, true, true, true, false, false, false, false, false, false, false] rfl rfl (by kernel_rfl) (fun _ _ _ h => hP _ _ _ _ _ h) (Or.inl ⟨by rfl, ?_⟩) ?_ ?_
  rotate_left
  · intro w'
    go_simp
    with_reducible rfl
  rotate_left
  · simp only [Act.put, List.setIfInBounds_toArray, List.set_cons_zero, List.set_cons_succ, i64_w, i32_w]
    rfl
  refine pure_ (i := 7) (N := (some 81)) (v := ?_) (a' := ?_) #[true, true, true, true, true, true, true, true, false, false, false, false, false, false] rfl rfl (by kernel_rfl) (fun _ _ _ h => hP _ _ _ _ _ h) (Or.inl ⟨by rfl, ?_⟩) ?_ ?_
  rotate_left
  · intro w'
    go_simp
    with_reducible rfl
  rotate_left
  · simp only [Act.put, List.setIfInBounds_toArray, List.set_cons_zero, List.set_cons_succ, i64_w, i32_w]
    rfl
  refine pure_ (i := 8) (N := (some 82)) (v := ?_) (a' := ?_) #[true, true, true, true, true, true, true, true, true, false, false, false, false, false] rfl rfl (by kernel_rfl) (fun _ _ _ h => hP _ _ _ _ _ h) (Or.inl ⟨by rfl, ?_⟩) ?_ ?_
  rotate_left
  · intro w'
    go_simp
    with_reducible rfl
  rotate_left
  · simp only [Act.put, List.setIfInBounds_toArray, List.set_cons_zero, List.set_cons_succ, i64_w, i32_w]
    rfl
  refine take_ (i := 9) (N := (some 83)) (v := ?_) (a' := ?_) #[true, true, true, true, true, true, true, true, true, true, false, false, false, false] rfl rfl (by kernel_rfl) (fun _ _ _ h => hP _ _ _ _ _ h) (Or.inl ⟨by rfl, ?_⟩) hHeld ?_ ?_
  rotate_left
  · intro w' ⟨_, ⟨e0, e1, e2, e3, e4, e5, e6, e7⟩⟩
    go_simp
    with_reducible rfl
  rotate_left
  · simp only [Act.put, List.setIfInBounds_toArray, List.set_cons_zero, List.set_cons_succ, i64_w, i32_w]
    rfl
  refine join_ (σ := Nat × Nat) 1 #[true, true, true, true, true, true, true, true, true, true, true, true, true, false] (fun s_ => [(84, .slice (some ⟨s_.1, 0, none⟩) 2 2), (85, .agg #[.int .i64 2, .int .u64 0, .int .u64 0, .int .u64 0, .int .u64 0, .int .i64 0, .int .i64 0, .slice (some ⟨s_.1, 0, none⟩) 2 2]), (9, .pointer (some ⟨s_.2, 0, none⟩))]) (fun s_ w' => Pair V w' z z2 (.slice A' k' c') (.slice A2 k2 c2) s_.1 s_.2) ?_ ?_
  rotate_left
  · intro hCont
    refine two_ (i := 10) (j := 12) (Ni := (some 84)) (Nj := (some 9)) #[true, true, true, true, true, true, true, true, true, true, true, false, false, false] #[true, true, true, true, true, true, true, true, true, true, false, false, true, false] rfl rfl rfl rfl (by kernel_rfl) (by decide) (by decide) (fun K hK => ?_) (fun K hK => ?_)
    · skip
      refine value_ (w1 := ?_) (v := ?_) (by rfl) rfl ?_ ?_
      rotate_left 2
      · go_simp
        constructor
        · rfl
        · rfl
      have hD1 := Lib.hid (below_alloc hD0.out (.cells (two16 z z2 (.slice A' k' c') (.slice A2 k2 c2)) 28))
      have hG1 := Lib.hid (Blk.new X0 28 (two16 z z2 (.slice A' k' c') (.slice A2 k2 c2)))
      have hW1 : Hid (elemC (X0.alloc (.cells (two16 z z2 (.slice A' k' c') (.slice A2 k2 c2)) 28)) (ad.add (m * 8)) z (.slice A' k' c') ∧ elemC (X0.alloc (.cells (two16 z z2 (.slice A' k' c') (.slice A2 k2 c2)) 28)) (ad.add (m1 * 8)) z2 (.slice A2 k2 c2)) := Lib.hid ⟨hW0.out.1.below (below_alloc (Below.refl _ _) _), hW0.out.2.below (below_alloc (Below.refl _ _) _)⟩
      refine hK.out _ _ hW1.out (fun hHeld => ?_)
      clear hK K
      refine norm_ (a' := ?_) ?_ ?_
      rotate_left
      · show Act.put _ (some 84) _ = _
        simp only [Act.put, List.setIfInBounds_toArray, List.set_cons_zero, List.set_cons_succ, i64_w, i32_w]
        rfl
      have hgS : V.heap.size ≤ X0.heap.size := hD0.out.size
      generalize X0.alloc (.cells (two16 z z2 (.slice A' k' c') (.slice A2 k2 c2)) 28) = X1 at *
      generalize X0.heap.size = G at *
      refine two_ (i := 11) (j := 12) (Ni := (some 85)) (Nj := (some 9)) #[true, true, true, true, true, true, true, true, true, true, true, true, false, false] #[true, true, true, true, true, true, true, true, true, true, true, false, true, false] rfl rfl rfl rfl (by kernel_rfl) (by decide) (by decide) (fun K hK => ?_) (fun K hK => ?_)
      · skip
        refine goes_ Try.func15 (by kernel_rfl) rfl #[.int .i64 2, .slice (some ⟨G, 0, none⟩) 2 2] (by rfl) rfl rfl (by simp only [List.map_toArray, List.map_cons, List.map_nil]; rfl) ?_
        refine (hma.out 2 (some ⟨G, 0, none⟩) 2 2 [z, z2] _).mono ?_
        rintro e X2 ⟨rfl, hbb⟩
        refine ⟨_, rfl, ?_⟩
        have hD2 := Lib.hid (below_then hD1.out hD1.out.size hbb)
        have hG2 := Lib.hid (hG1.out.below hbb hG1.out.lt)
        have hW2 : Hid (elemC X2 (ad.add (m * 8)) z (.slice A' k' c') ∧ elemC X2 (ad.add (m1 * 8)) z2 (.slice A2 k2 c2)) := Lib.hid ⟨hW1.out.1.below hbb, hW1.out.2.below hbb⟩
        refine hK.out _ _ hW2.out (fun hHeld => ?_)
        clear hK K
        refine norm_ (a' := ?_) ?_ ?_
        rotate_left
        · show Act.put _ (some 85) _ = _
          simp only [Act.put, List.setIfInBounds_toArray, List.set_cons_zero, List.set_cons_succ, i64_w, i32_w]
          rfl
        refine one_ (i := 12) (N := (some 9)) #[true, true, true, true, true, true, true, true, true, true, true, true, true, false] rfl rfl (by kernel_rfl) (by decide) (fun K hK => ?_)
        refine value_ (w1 := ?_) (v := ?_) (by rfl) rfl ?_ ?_
        rotate_left 2
        · go_simp
          constructor
          · rfl
          · rfl
        have hD3 := below_alloc hD2.out (.cells #[.int .i64 0, .int .u64 0, .int .u64 0, .int .u64 0, .int .u64 0, .int .i64 0, .int .i64 0, .slice none 0 0] 28)
        have hW3 : Hid (elemC (X2.alloc (.cells #[.int .i64 0, .int .u64 0, .int .u64 0, .int .u64 0, .int .u64 0, .int .i64 0, .int .i64 0, .slice none 0 0] 28)) (ad.add (m * 8)) z (.slice A' k' c') ∧ elemC (X2.alloc (.cells #[.int .i64 0, .int .u64 0, .int .u64 0, .int .u64 0, .int .u64 0, .int .i64 0, .int .i64 0, .slice none 0 0] 28)) (ad.add (m1 * 8)) z2 (.slice A2 k2 c2)) := Lib.hid ⟨hW2.out.1.below (below_alloc (Below.refl _ _) _), hW2.out.2.below (below_alloc (Below.refl _ _) _)⟩
        have hF3 : Pair V (X2.alloc (.cells #[.int .i64 0, .int .u64 0, .int .u64 0, .int .u64 0, .int .u64 0, .int .i64 0, .int .i64 0, .slice none 0 0] 28)) z z2 (.slice A' k' c') (.slice A2 k2 c2) G X2.heap.size := ⟨hD3, hG2.out.alloc _, Blk.new X2 28 #[.int .i64 0, .int .u64 0, .int .u64 0, .int .u64 0, .int .u64 0, .int .i64 0, .int .i64 0, .slice none 0 0], Nat.ne_of_lt hG2.out.lt, hgS, hD2.out.size⟩
        refine hK.out _ _ hW3.out (fun hHeld => ?_)
        clear hK K
        refine norm_ (a' := ?_) ?_ ?_
        rotate_left
        · show Act.put _ (some 9) _ = _
          simp only [Act.put, List.setIfInBounds_toArray, List.set_cons_zero, List.set_cons_succ, i64_w, i32_w]
          rfl
        exact norm_ (by simp only [putAll, Act.put, List.setIfInBounds_toArray, List.set_cons_zero, List.set_cons_succ]) (hCont (G, X2.heap.size) _ hF3)
      · skip
        refine value_ (w1 := ?_) (v := ?_) (by rfl) rfl ?_ ?_
        rotate_left 2
        · go_simp
          constructor
          · rfl
          · rfl
        have hD2 := Lib.hid (below_alloc hD1.out (.cells #[.int .i64 0, .int .u64 0, .int .u64 0, .int .u64 0, .int .u64 0, .int .i64 0, .int .i64 0, .slice none 0 0] 28))
        have hG2 := Lib.hid (hG1.out.alloc (.cells #[.int .i64 0, .int .u64 0, .int .u64 0, .int .u64 0, .int .u64 0, .int .i64 0, .int .i64 0, .slice none 0 0] 28))
        have hC2 := Lib.hid (Blk.new X1 28 #[.int .i64 0, .int .u64 0, .int .u64 0, .int .u64 0, .int .u64 0, .int .i64 0, .int .i64 0, .slice none 0 0])
        have hW2 : Hid (elemC (X1.alloc (.cells #[.int .i64 0, .int .u64 0, .int .u64 0, .int .u64 0, .int .u64 0, .int .i64 0, .int .i64 0, .slice none 0 0] 28)) (ad.add (m * 8)) z (.slice A' k' c') ∧ elemC (X1.alloc (.cells #[.int .i64 0, .int .u64 0, .int .u64 0, .int .u64 0, .int .u64 0, .int .i64 0, .int .i64 0, .slice none 0 0] 28)) (ad.add (m1 * 8)) z2 (.slice A2 k2 c2)) := Lib.hid ⟨hW1.out.1.below (below_alloc (Below.refl _ _) _), hW1.out.2.below (below_alloc (Below.refl _ _) _)⟩
        refine hK.out _ _ hW2.out (fun hHeld => ?_)
        clear hK K
        refine norm_ (a' := ?_) ?_ ?_
        rotate_left
        · show Act.put _ (some 9) _ = _
          simp only [Act.put, List.setIfInBounds_toArray, List.set_cons_zero, List.set_cons_succ, i64_w, i32_w]
          rfl
        have hbS : V.heap.size ≤ X1.heap.size := hD1.out.size
        have hbn : G ≠ X1.heap.size := Nat.ne_of_lt hG1.out.lt
        generalize X1.alloc (.cells #[.int .i64 0, .int .u64 0, .int .u64 0, .int .u64 0, .int .u64 0, .int .i64 0, .int .i64 0, .slice none 0 0] 28) = X2 at *
        generalize X1.heap.size = B at *
        refine one_ (i := 11) (N := (some 85)) #[true, true, true, true, true, true, true, true, true, true, true, true, true, false] rfl rfl (by kernel_rfl) (by decide) (fun K hK => ?_)
        refine goes_ Try.func15 (by kernel_rfl) rfl #[.int .i64 2, .slice (some ⟨G, 0, none⟩) 2 2] (by rfl) rfl rfl (by simp only [List.map_toArray, List.map_cons, List.map_nil]; rfl) ?_
        refine (hma.out 2 (some ⟨G, 0, none⟩) 2 2 [z, z2] _).mono ?_
        rintro e X3 ⟨rfl, hbb⟩
        refine ⟨_, rfl, ?_⟩
        have hW3 : Hid (elemC X3 (ad.add (m * 8)) z (.slice A' k' c') ∧ elemC X3 (ad.add (m1 * 8)) z2 (.slice A2 k2 c2)) := Lib.hid ⟨hW2.out.1.below hbb, hW2.out.2.below hbb⟩
        have hF3 : Pair V X3 z z2 (.slice A' k' c') (.slice A2 k2 c2) G B := ⟨below_then hD2.out hD2.out.size hbb, hG2.out.below hbb hG2.out.lt, hC2.out.below hbb hC2.out.lt, hbn, hgS, hbS⟩
        refine hK.out _ _ hW3.out (fun hHeld => ?_)
        clear hK K
        refine norm_ (a' := ?_) ?_ ?_
        rotate_left
        · show Act.put _ (some 85) _ = _
          simp only [Act.put, List.setIfInBounds_toArray, List.set_cons_zero, List.set_cons_succ, i64_w, i32_w]
          rfl
        exact norm_ (by simp only [putAll, Act.put, List.setIfInBounds_toArray, List.set_cons_zero, List.set_cons_succ]) (hCont (G, B) _ hF3)
    · skip
      refine value_ (w1 := ?_) (v := ?_) (by rfl) rfl ?_ ?_
      rotate_left 2
      · go_simp
        constructor
        · rfl
        · rfl
      have hD1 := Lib.hid (below_alloc hD0.out (.cells #[.int .i64 0, .int .u64 0, .int .u64 0, .int .u64 0, .int .u64 0, .int .i64 0, .int .i64 0, .slice none 0 0] 28))
      have hC1 := Lib.hid (Blk.new X0 28 #[.int .i64 0, .int .u64 0, .int .u64 0, .int .u64 0, .int .u64 0, .int .i64 0, .int .i64 0, .slice none 0 0])
      have hW1 : Hid (elemC (X0.alloc (.cells #[.int .i64 0, .int .u64 0, .int .u64 0, .int .u64 0, .int .u64 0, .int .i64 0, .int .i64 0, .slice none 0 0] 28)) (ad.add (m * 8)) z (.slice A' k' c') ∧ elemC (X0.alloc (.cells #[.int .i64 0, .int .u64 0, .int .u64 0, .int .u64 0, .int .u64 0, .int .i64 0, .int .i64 0, .slice none 0 0] 28)) (ad.add (m1 * 8)) z2 (.slice A2 k2 c2)) := Lib.hid ⟨hW0.out.1.below (below_alloc (Below.refl _ _) _), hW0.out.2.below (below_alloc (Below.refl _ _) _)⟩
      refine hK.out _ _ hW1.out (fun hHeld => ?_)
      clear hK K
      refine norm_ (a' := ?_) ?_ ?_
      rotate_left
      · show Act.put _ (some 9) _ = _
        simp only [Act.put, List.setIfInBounds_toArray, List.set_cons_zero, List.set_cons_succ, i64_w, i32_w]
        rfl
      have hbS : V.heap.size ≤ X0.heap.size := hD0.out.size
      generalize X0.alloc (.cells #[.int .i64 0, .int .u64 0, .int .u64 0, .int .u64 0, .int .u64 0, .int .i64 0, .int .i64 0, .slice none 0 0] 28) = X1 at *
      generalize X0.heap.size = B at *
      refine one_ (i := 10) (N := (some 84)) #[true, true, true, true, true, true, true, true, true, true, true, false, true, false] rfl rfl (by kernel_rfl) (by decide) (fun K hK => ?_)
      refine value_ (w1 := ?_) (v := ?_) (by rfl) rfl ?_ ?_
      rotate_left 2
      · go_simp
        constructor
        · rfl
        · rfl
      have hD2 := Lib.hid (below_alloc hD1.out (.cells (two16 z z2 (.slice A' k' c') (.slice A2 k2 c2)) 28))
      have hG2 := Lib.hid (Blk.new X1 28 (two16 z z2 (.slice A' k' c') (.slice A2 k2 c2)))
      have hC2 := Lib.hid (hC1.out.alloc (.cells (two16 z z2 (.slice A' k' c') (.slice A2 k2 c2)) 28))
      have hW2 : Hid (elemC (X1.alloc (.cells (two16 z z2 (.slice A' k' c') (.slice A2 k2 c2)) 28)) (ad.add (m * 8)) z (.slice A' k' c') ∧ elemC (X1.alloc (.cells (two16 z z2 (.slice A' k' c') (.slice A2 k2 c2)) 28)) (ad.add (m1 * 8)) z2 (.slice A2 k2 c2)) := Lib.hid ⟨hW1.out.1.below (below_alloc (Below.refl _ _) _), hW1.out.2.below (below_alloc (Below.refl _ _) _)⟩
      refine hK.out _ _ hW2.out (fun hHeld => ?_)
      clear hK K
      refine norm_ (a' := ?_) ?_ ?_
      rotate_left
      · show Act.put _ (some 84) _ = _
        simp only [Act.put, List.setIfInBounds_toArray, List.set_cons_zero, List.set_cons_succ, i64_w, i32_w]
        rfl
      have hgS : V.heap.size ≤ X1.heap.size := hD1.out.size
      have hbn : X1.heap.size ≠ B := Nat.ne_of_gt hC1.out.lt
      generalize X1.alloc (.cells (two16 z z2 (.slice A' k' c') (.slice A2 k2 c2)) 28) = X2 at *
      generalize X1.heap.size = G at *
      refine one_ (i := 11) (N := (some 85)) #[true, true, true, true, true, true, true, true, true, true, true, true, true, false] rfl rfl (by kernel_rfl) (by decide) (fun K hK => ?_)
      refine goes_ Try.func15 (by kernel_rfl) rfl #[.int .i64 2, .slice (some ⟨G, 0, none⟩) 2 2] (by rfl) rfl rfl (by simp only [List.map_toArray, List.map_cons, List.map_nil]; rfl) ?_
      refine (hma.out 2 (some ⟨G, 0, none⟩) 2 2 [z, z2] _).mono ?_
      rintro e X3 ⟨rfl, hbb⟩
      refine ⟨_, rfl, ?_⟩
      have hW3 : Hid (elemC X3 (ad.add (m * 8)) z (.slice A' k' c') ∧ elemC X3 (ad.add (m1 * 8)) z2 (.slice A2 k2 c2)) := Lib.hid ⟨hW2.out.1.below hbb, hW2.out.2.below hbb⟩
      have hF3 : Pair V X3 z z2 (.slice A' k' c') (.slice A2 k2 c2) G B := ⟨below_then hD2.out hD2.out.size hbb, hG2.out.below hbb hG2.out.lt, hC2.out.below hbb hC2.out.lt, hbn, hgS, hbS⟩
      refine hK.out _ _ hW3.out (fun hHeld => ?_)
      clear hK K
      refine norm_ (a' := ?_) ?_ ?_
      rotate_left
      · show Act.put _ (some 85) _ = _
        simp only [Act.put, List.setIfInBounds_toArray, List.set_cons_zero, List.set_cons_succ, i64_w, i32_w]
        rfl
      exact norm_ (by simp only [putAll, Act.put, List.setIfInBounds_toArray, List.set_cons_zero, List.set_cons_succ]) (hCont (G, B) _ hF3)
  rintro ⟨G, B⟩ X4 hF
  refine norm_ (a' := ?_) ?_ ?_
  rotate_left
  · simp only [putAll, Act.put, List.setIfInBounds_toArray, List.set_cons_zero, List.set_cons_succ]
    rfl
  have hFH := Lib.hid hF
  clear hF hW0 hD0
  have c0 := hFH.out.c.cell 0
  have c1 := hFH.out.c.cell 1
  have c2_ := hFH.out.c.cell 2
  have c3_ := hFH.out.c.cell 3
  have c4 := hFH.out.c.cell 4
  have c5 := hFH.out.c.cell 5
  have c6 := hFH.out.c.cell 6
  have c7 := hFH.out.c.cell 7
  have g0 := hFH.out.c.frozen 0
  have g1 := hFH.out.c.frozen 1
  have g2 := hFH.out.c.frozen 2
  have g3 := hFH.out.c.frozen 3
  have g4 := hFH.out.c.frozen 4
  have g5 := hFH.out.c.frozen 5
  have g6 := hFH.out.c.frozen 6
  have g7 := hFH.out.c.frozen 7
  simp only [List.getElem?_toArray, List.getElem?_cons_zero, List.getElem?_cons_succ] at c0 c1 c2_ c3_ c4 c5 c6 c7
  refine last_ (i := 13) (N := none) #[true, true, true, true, true, true, true, true, true, true, true, true, true, true] rfl rfl (by kernel_rfl) (by decide) (fun K hK => ?_)
  refine skip_ (w1 := ?_) (by rfl) rfl ?_ ?_
  rotate_left
  · go_simp
    rfl
  refine hK.out _ _ ?_
  clear hK K
  refine done_ (by kernel_rfl) ?_
  have hX8 : Hid (Blk ((((((((X4.setCell ⟨B, 0, none⟩ (.int .i64 2)).setCell ⟨B, 1, none⟩ (.int .u64 0)).setCell ⟨B, 2, none⟩ (.int .u64 0)).setCell ⟨B, 3, none⟩ (.int .u64 0)).setCell ⟨B, 4, none⟩ (.int .u64 0)).setCell ⟨B, 5, none⟩ (.int .i64 0)).setCell ⟨B, 6, none⟩ (.int .i64 0)).setCell ⟨B, 7, none⟩ (.slice (some ⟨G, 0, none⟩) 2 2)) B 28 #[.int .i64 2, .int .u64 0, .int .u64 0, .int .u64 0, .int .u64 0, .int .i64 0, .int .i64 0, .slice (some ⟨G, 0, none⟩) 2 2]) := Lib.hid (set8 hFH.out.c _ _ _ _ _ _ _ _)
  have hG8 : Hid (Blk ((((((((X4.setCell ⟨B, 0, none⟩ (.int .i64 2)).setCell ⟨B, 1, none⟩ (.int .u64 0)).setCell ⟨B, 2, none⟩ (.int .u64 0)).setCell ⟨B, 3, none⟩ (.int .u64 0)).setCell ⟨B, 4, none⟩ (.int .u64 0)).setCell ⟨B, 5, none⟩ (.int .i64 0)).setCell ⟨B, 6, none⟩ (.int .i64 0)).setCell ⟨B, 7, none⟩ (.slice (some ⟨G, 0, none⟩) 2 2)) G 28 ((two16 z z2 (.slice A' k' c') (.slice A2 k2 c2)))) := Lib.hid (far8 hFH.out.g hFH.out.ne _ _ _ _ _ _ _ _)
  have hB8 : Hid (Below V.heap.size V ((((((((X4.setCell ⟨B, 0, none⟩ (.int .i64 2)).setCell ⟨B, 1, none⟩ (.int .u64 0)).setCell ⟨B, 2, none⟩ (.int .u64 0)).setCell ⟨B, 3, none⟩ (.int .u64 0)).setCell ⟨B, 4, none⟩ (.int .u64 0)).setCell ⟨B, 5, none⟩ (.int .i64 0)).setCell ⟨B, 6, none⟩ (.int .i64 0)).setCell ⟨B, 7, none⟩ (.slice (some ⟨G, 0, none⟩) 2 2))) := Lib.hid (below8 hFH.out.b hFH.out.bl _ _ _ _ _ _ _ _)
  have hGl := Lib.hid hFH.out.gl
  clear hwm hwm1 hHeld hFH c0 c1 c2_ c3_ c4 c5 c6 c7 g0 g1 g2 g3 g4 g5 g6 g7
  generalize ((((((((X4.setCell ⟨B, 0, none⟩ (.int .i64 2)).setCell ⟨B, 1, none⟩ (.int .u64 0)).setCell ⟨B, 2, none⟩ (.int .u64 0)).setCell ⟨B, 3, none⟩ (.int .u64 0)).setCell ⟨B, 4, none⟩ (.int .u64 0)).setCell ⟨B, 5, none⟩ (.int .i64 0)).setCell ⟨B, 6, none⟩ (.int .i64 0)).setCell ⟨B, 7, none⟩ (.slice (some ⟨G, 0, none⟩) 2 2)) = X5 at *
  have hN8 := Lib.hid (mk_two 2 hM3.out hgl hGl.out hNzH.out hNzH2.out hG8.out hB8.out)
  have hM8 : Hid (MkAt W0 X5 (.slice (some ⟨g2, 0, none⟩) m1 k3) (l.take m1)) := (by have h := (hM3.out.below hB8.out).take (m := m1) hm10; rw [hadH.out] at h; exact Lib.hid h)
  have e0 := hX8.out.cell 0
  have e1 := hX8.out.cell 1
  have e2 := hX8.out.cell 2
  have e3 := hX8.out.cell 3
  have e4 := hX8.out.cell 4
  have e5 := hX8.out.cell 5
  have e6 := hX8.out.cell 6
  have e7 := hX8.out.cell 7
  simp only [List.getElem?_toArray, List.getElem?_cons_zero, List.getElem?_cons_succ] at e0 e1 e2 e3 e4 e5 e6 e7
  go_wp2_with ((with_reducible refine gate_store (t := 28) (p := 94) rfl ?_); refine st8 (W0 := W0) (g := g2) (m := m) (o' := m * 8) (x' := .mk 2 0 0 0 0 0 0 [z, z2]) (v' := .slice (some ⟨G, 0, none⟩) 2 2) 94 93 rfl rfl rfl (by show Value.pointer (some (ad.add (m * 8))) = _; rw [hadH.out, add_off0]) rfl rfl rfl rfl rfl hM8.out hm11 hN8.out ((Gd_mk _ _ _ _ _ _ _ _).2 ⟨by simp, ⟨by decide, by decide⟩, ⟨by decide, by decide⟩, ⟨u64_0, u64_0, u64_0, u64_0⟩, fun k hk => by rcases List.mem_cons.1 hk with rfl | hk; exact hgz.out; rw [List.mem_singleton.1 hk]; exact hgz2.out⟩) ?_; intro w9 hMN)
  unfold EndS; (repeat apply Exists.intro); exact ⟨⟨(l.take m1).set m (.mk 2 0 0 0 0 0 0 [z, z2]), by rw [List.length_set, List.length_take, Nat.min_eq_left hm10]; exact hm13, Lib.hid (by rw [hadH.out]; exact hMN.out)⟩, rfl⟩
set_option maxRecDepth 20000 in
set_option maxHeartbeats 4000000 in
theorem mkT5 (c0 c1 c2 c187 c188 c189 c190 c191 c192 c193 c194 : Value) (u8 u9 u10 u11 u12 u13 u14 u15 u16 u17 u18 u19 u20 u21 u22 u23 u24 u25 u26 u27 u28 u29 u30 u31 u32 u33 u34 u35 u36 u37 u38 u39 u40 u41 u42 u43 u44 u45 u46 u47 u48 u49 u50 u51 u52 u53 u54 u55 u56 u57 u58 u59 u60 u61 u62 u63 u64 u65 u66 u67 u68 u69 u70 u71 u72 u73 u74 u75 u76 u77 u78 u79 u80 u81 u82 u83 u84 u85 u86 u87 u88 u89 u90 u91 u92 u93 u94 u95 u96 u97 u98 u99 u100 u101 u102 u103 u104 u105 u106 u107 u108 u109 u110 u111 u112 u113 u114 u115 u116 u117 u118 u119 u120 u121 u122 u123 u124 u125 u126 u127 u128 u129 u130 u131 u132 u133 u134 u135 u136 u137 u138 u139 u140 u141 u142 u143 u144 u145 u146 u147 u148 u149 u150 u151 u152 u153 u154 u155 u156 u157 u158 u159 u160 u161 u162 u163 u164 u165 u166 u167 u168 u169 u170 u171 u172 u173 u174 u175 u176 u177 u178 u179 u180 u181 u182 u183 u184 u185 u186 : Value) (W0 V : World) (A3 : Option Addr) (k3 i x y bl : Nat) (l : List Nd) (q0 q1 q2 q3 : Int) (hll2 : l.length ≤ 1000) (hx256 : x < 256) (hy : y < 256) (hyl : 97 ≤ y) (hby : Hid ((97 + (x : Int) / 8 % 3) = (y : Int))) (hlen : Hid (l.length ≤ k3)) (hM3 : Hid (MkAt W0 V (.slice A3 l.length k3) l)) (hL3 : Hid (Blk V bl 28 #[.int .i64 0, .int .u64 q0, .int .u64 q1, .int .u64 q2, .int .u64 q3, .int .i64 0, .int .i64 0, .slice none 0 0])) (hq : Hid (U64 q0 ∧ U64 q1 ∧ U64 q2 ∧ U64 q3)) (Q : Exit → Act → World → Prop) (hP : ∀ ch (a : Act) N v w', Q (.panic ch) (a.put N v) w' → Q (.panic ch) a w') (hQ : ∀ a' w', EndS c0 c1 c2 c187 c188 c189 c190 c191 c192 c193 c194 W0 i l.length a' w' → Q .normal a' w') (h8 : (x : Int) % 8 = 5) (hn : 1 ≤ l.length) :
    Code.wp Try.prog (thenOf mkS2) Q ⟨#[c0, c1, c2, .slice A3 l.length k3, .int .i64 i, .int .i64 x, .int .i64 l.length, .pointer (some ⟨bl, 0, none⟩), u8, u9, u10, u11, u12, u13, u14, u15, u16, u17, u18, u19, u20, u21, u22, u23, u24, u25, u26, u27, u28, u29, u30, u31, u32, u33, u34, u35, u36, u37, u38, u39, u40, u41, u42, u43, u44, u45, u46, u47, u48, u49, u50, u51, u52, u53, u54, u55, u56, u57, u58, u59, u60, u61, u62, u63, u64, u65, u66, u67, u68, u69, u70, u71, u72, u73, u74, u75, u76, u77, u78, u79, u80, u81, u82, u83, u84, u85, u86, u87, u88, u89, u90, u91, u92, u93, u94, u95, u96, u97, u98, u99, u100, u101, u102, u103, u104, u105, u106, u107, u108, u109, u110, u111, u112, u113, u114, u115, u116, u117, u118, u119, u120, u121, u122, u123, u124, u125, u126, u127, u128, u129, u130, u131, u132, u133, u134, u135, u136, u137, u138, u139, u140, u141, u142, u143, u144, u145, u146, u147, u148, u149, u150, u151, u152, u153, u154, u155, u156, u157, u158, u159, u160, u161, u162, u163, u164, u165, u166, u167, u168, u169, u170, u171, u172, u173, u174, u175, u176, u177, u178, u179, u180, u181, u182, u183, u184, u185, u186, c187, c188, c189, c190, c191, c192, c193, c194], []⟩ V := by
  conv => arg 2; whnf
  have hre := Lib.hid (fun n A m c lo hi w => rep_m n A m c lo hi w)
  obtain ⟨m, hm⟩ : ∃ m, m + 1 = l.length := ⟨l.length - 1, by omega⟩
  obtain ⟨ad, g, A', c', k', z, hA, had, hgl, hz, hlz, hNz, d0, d1, d2, d3, d4, d5, d6, d7⟩ := hM3.out.elem (m := m) (by omega)
  subst hA
  have hadH := Lib.hid had
  have hNzH := Lib.hid hNz
  have hgz := Lib.hid (hM3.out.g z hz)
  have hm1 : (l.length : Int) - 1 = (m : Int) := by omega
  have hm2 : (0 : Int) ≤ (m : Int) := by omega
  have hm3 : (m : Int) < (l.length : Int) := by omega
  have hm4 : decide (0 < l.length) = true := decide_eq_true (by omega)
  have hm5 : 0 < l.length := by omega
  have hmH := Lib.hid hm
  clear had hNz hn hm hz
  by_cases hb7 : 128 ≤ x
  · have hb8 : decide ((128 : Int) ≤ (x : Int)) = true := decide_eq_true (by omega)
    have hb9 : decide (128 ≤ x) = true := decide_eq_true hb7
    go_wp2_with (first
      | (go_at_call 18; refine (hre.out z A' k' c' ((x : Int) / 8 % 3) (-1) _).mono ?_; rintro e w5 ⟨rfl, hg5, hB5⟩; have hM6 : Hid (MkAt W0 w5 (.slice (some ⟨g, 0, none⟩) l.length k3) l) := (by have h := hM3.out.below hB5; rw [hadH.out] at h; exact Lib.hid h); have hN6 := Lib.hid (mk_one ((x : Int) / 8 % 3) (-1) 3 hM3.out hgl (by omega) hNzH.out hg5 hB5); clear hB5 hg5)
      | ((with_reducible refine gate_store (t := 28) (p := 124) rfl ?_); refine st8 (W0 := W0) (g := g) (m := m) (o' := m * 8) (x' := .mk 3 0 0 0 0 ((x : Int) / 8 % 3) (-1) [z]) (v' := .slice (some ⟨V.heap.size + 1 + 1, 0, none⟩) 1 1) 124 123 rfl rfl rfl (by show Value.pointer (some (ad.add (m * 8))) = _; rw [hadH.out, add_off0]) rfl rfl rfl rfl rfl hM6.out (by omega) hN6.out ((Gd_mk _ _ _ _ _ _ _ _).2 ⟨by simp, by omega, by omega, ⟨u64_0, u64_0, u64_0, u64_0⟩, fun k hk => by rw [List.mem_singleton.1 hk]; exact hgz.out⟩) ?_; intro w9 hMN))
    unfold EndS; (repeat apply Exists.intro); exact ⟨⟨l.set m (.mk 3 0 0 0 0 ((x : Int) / 8 % 3) (-1) [z]), by rw [List.length_set]; omega, Lib.hid (by rw [hadH.out]; exact hMN.out)⟩, rfl⟩
  · have hb8 : decide ((128 : Int) ≤ (x : Int)) = false := decide_eq_false (by omega)
    have hb9 : decide (128 ≤ x) = false := decide_eq_false hb7
    go_wp2_with (first
      | (go_at_call 18; refine (hre.out z A' k' c' ((x : Int) / 8 % 3) ((x : Int) / 8 % 3 + (x : Int) / 24 % 3) _).mono ?_; rintro e w5 ⟨rfl, hg5, hB5⟩; have hM6 : Hid (MkAt W0 w5 (.slice (some ⟨g, 0, none⟩) l.length k3) l) := (by have h := hM3.out.below hB5; rw [hadH.out] at h; exact Lib.hid h); have hN6 := Lib.hid (mk_one ((x : Int) / 8 % 3) ((x : Int) / 8 % 3 + (x : Int) / 24 % 3) 3 hM3.out hgl (by omega) hNzH.out hg5 hB5); clear hB5 hg5)
      | ((with_reducible refine gate_store (t := 28) (p := 124) rfl ?_); refine st8 (W0 := W0) (g := g) (m := m) (o' := m * 8) (x' := .mk 3 0 0 0 0 ((x : Int) / 8 % 3) ((x : Int) / 8 % 3 + (x : Int) / 24 % 3) [z]) (v' := .slice (some ⟨V.heap.size + 1 + 1, 0, none⟩) 1 1) 124 123 rfl rfl rfl (by show Value.pointer (some (ad.add (m * 8))) = _; rw [hadH.out, add_off0]) rfl rfl rfl rfl rfl hM6.out (by omega) hN6.out ((Gd_mk _ _ _ _ _ _ _ _).2 ⟨by simp, by omega, by omega, ⟨u64_0, u64_0, u64_0, u64_0⟩, fun k hk => by rw [List.mem_singleton.1 hk]; exact hgz.out⟩) ?_; intro w9 hMN))
    unfold EndS; (repeat apply Exists.intro); exact ⟨⟨l.set m (.mk 3 0 0 0 0 ((x : Int) / 8 % 3) ((x : Int) / 8 % 3 + (x : Int) / 24 % 3) [z]), by rw [List.length_set]; omega, Lib.hid (by rw [hadH.out]; exact hMN.out)⟩, rfl⟩
set_option maxRecDepth 20000 in
set_option maxHeartbeats 4000000 in
theorem mkT6 (c0 c1 c2 c187 c188 c189 c190 c191 c192 c193 c194 : Value) (u8 u9 u10 u11 u12 u13 u14 u15 u16 u17 u18 u19 u20 u21 u22 u23 u24 u25 u26 u27 u28 u29 u30 u31 u32 u33 u34 u35 u36 u37 u38 u39 u40 u41 u42 u43 u44 u45 u46 u47 u48 u49 u50 u51 u52 u53 u54 u55 u56 u57 u58 u59 u60 u61 u62 u63 u64 u65 u66 u67 u68 u69 u70 u71 u72 u73 u74 u75 u76 u77 u78 u79 u80 u81 u82 u83 u84 u85 u86 u87 u88 u89 u90 u91 u92 u93 u94 u95 u96 u97 u98 u99 u100 u101 u102 u103 u104 u105 u106 u107 u108 u109 u110 u111 u112 u113 u114 u115 u116 u117 u118 u119 u120 u121 u122 u123 u124 u125 u126 u127 u128 u129 u130 u131 u132 u133 u134 u135 u136 u137 u138 u139 u140 u141 u142 u143 u144 u145 u146 u147 u148 u149 u150 u151 u152 u153 u154 u155 u156 u157 u158 u159 u160 u161 u162 u163 u164 u165 u166 u167 u168 u169 u170 u171 u172 u173 u174 u175 u176 u177 u178 u179 u180 u181 u182 u183 u184 u185 u186 : Value) (W0 V : World) (A3 : Option Addr) (k3 i x y bl : Nat) (l : List Nd) (q0 q1 q2 q3 : Int) (hll2 : l.length ≤ 1000) (hx256 : x < 256) (hy : y < 256) (hyl : 97 ≤ y) (hby : Hid ((97 + (x : Int) / 8 % 3) = (y : Int))) (hlen : Hid (l.length ≤ k3)) (hM3 : Hid (MkAt W0 V (.slice A3 l.length k3) l)) (hL3 : Hid (Blk V bl 28 #[.int .i64 0, .int .u64 q0, .int .u64 q1, .int .u64 q2, .int .u64 q3, .int .i64 0, .int .i64 0, .slice none 0 0])) (hq : Hid (U64 q0 ∧ U64 q1 ∧ U64 q2 ∧ U64 q3)) (Q : Exit → Act → World → Prop) (hP : ∀ ch (a : Act) N v w', Q (.panic ch) (a.put N v) w' → Q (.panic ch) a w') (hQ : ∀ a' w', EndS c0 c1 c2 c187 c188 c189 c190 c191 c192 c193 c194 W0 i l.length a' w' → Q .normal a' w') (h8 : (x : Int) % 8 = 6) (hn : 2 ≤ l.length) :
    Code.wp Try.prog (thenOf mkS3) Q ⟨#[c0, c1, c2, .slice A3 l.length k3, .int .i64 i, .int .i64 x, .int .i64 l.length, .pointer (some ⟨bl, 0, none⟩), u8, u9, u10, u11, u12, u13, u14, u15, u16, u17, u18, u19, u20, u21, u22, u23, u24, u25, u26, u27, u28, u29, u30, u31, u32, u33, u34, u35, u36, u37, u38, u39, u40, u41, u42, u43, u44, u45, u46, u47, u48, u49, u50, u51, u52, u53, u54, u55, u56, u57, u58, u59, u60, u61, u62, u63, u64, u65, u66, u67, u68, u69, u70, u71, u72, u73, u74, u75, u76, u77, u78, u79, u80, u81, u82, u83, u84, u85, u86, u87, u88, u89, u90, u91, u92, u93, u94, u95, u96, u97, u98, u99, u100, u101, u102, u103, u104, u105, u106, u107, u108, u109, u110, u111, u112, u113, u114, u115, u116, u117, u118, u119, u120, u121, u122, u123, u124, u125, u126, u127, u128, u129, u130, u131, u132, u133, u134, u135, u136, u137, u138, u139, u140, u141, u142, u143, u144, u145, u146, u147, u148, u149, u150, u151, u152, u153, u154, u155, u156, u157, u158, u159, u160, u161, u162, u163, u164, u165, u166, u167, u168, u169, u170, u171, u172, u173, u174, u175, u176, u177, u178, u179, u180, u181, u182, u183, u184, u185, u186, c187, c188, c189, c190, c191, c192, c193, c194], []⟩ V := by
  conv => arg 2; whnf
  have hma := Lib.hid (show ∀ (op : Int) (A : Option Addr) (n c : Nat) (ks : List Nd) (w : World), Calls Try.prog 15 #[.int .i64 op, .slice A n c] w fun e w' => e = .returned (.agg #[.int .i64 op, .int .u64 0, .int .u64 0, .int .u64 0, .int .u64 0, .int .i64 0, .int .i64 0, .slice A n c]) ∧ Below w.heap.size w w' from fun op A n c ks w => many_c op A n c ks w)
  obtain ⟨m, hm⟩ : ∃ m, m + 2 = l.length := ⟨l.length - 2, by omega⟩
  obtain ⟨m1, hmm⟩ : ∃ m1, m1 = m + 1 := ⟨_, rfl⟩
  obtain ⟨ad, g, A', c', k', z, hA, had, hgl, hz, hlz, hNz, d0, d1, d2, d3, d4, d5, d6, d7⟩ := hM3.out.elem (m := m) (by omega)
  obtain ⟨ad2, g2, A2, c2, k2, z2, hA2, had2, hgl2, hz2, hlz2, hNz2, f0, f1, f2, f3, f4, f5, f6, f7⟩ := hM3.out.elem (m := m1) (by omega)
  subst hA
  injection hA2 with hA2
  subst hA2
  have hg2 : g2 = g := by rw [had] at had2; injection had2 with h _; exact h.symm
  subst hg2
  have hadH := Lib.hid had
  have hNzH := Lib.hid hNz
  have hNzH2 := Lib.hid hNz2
  have hgz := Lib.hid (hM3.out.g z hz)
  have hgz2 := Lib.hid (hM3.out.g z2 hz2)
  have hlc := (Kd.R_reads' hM3.out.r).2.1
  have hm1 : (l.length : Int) - 2 = (m : Int) := by omega
  have hm2 : (l.length : Int) - 1 = (m1 : Int) := by omega
  have hm3 : (0 : Int) ≤ (m : Int) := by omega
  have hm4 : (m : Int) < (l.length : Int) := by omega
  have hm5 : (0 : Int) ≤ (m1 : Int) := by omega
  have hm6 : (m1 : Int) < (l.length : Int) := by omega
  have hm7 : (m1 : Int) ≤ (k3 : Int) := by omega
  have hm8 : m1 ≤ k3 := by omega
  have hm9 : (m : Int) < (m1 : Int) := by omega
  have hwmH := Lib.hid (wrap64_nat m (by omega))
  have hwmH1 := Lib.hid (wrap64_nat m1 (by omega))
  have hm10 : m1 ≤ l.length := by omega
  have hm11 : m < m1 := by omega
  have hm13 : m1 ≤ l.length + 1 := by omega
  have hn1 : 1 < l.length := by omega
  have hn2 : decide (1 < l.length) = true := decide_eq_true hn1
  have hmH := Lib.hid hm
  have hmmH := Lib.hid hmm
  have hE1 := Lib.hid (show elemC V (ad.add (m * 8)) z (.slice A' k' c') from ⟨d0, d1, d2, d3, d4, d5, d6, d7⟩)
  have hE2 := Lib.hid (show elemC V (ad.add (m1 * 8)) z2 (.slice A2 k2 c2) from ⟨f0, f1, f2, f3, f4, f5, f6, f7⟩)
  clear had hNz hNz2 hn hm hmm hz hz2 had2 hlz hlz2 d0 d1 d2 d3 d4 d5 d6 d7 f0 f1 f2 f3 f4 f5 f6 f7 hlc hgl2
  go_upto_region 24 with (fail)
  refine start_ (n := 14) (S := (fun w' => elemC w' (ad.add (m * 8)) z (.slice A' k' c') ∧ elemC w' (ad.add (m1 * 8)) z2 (.slice A2 k2 c2))) (ds := [13]) #[false, false, false, false, false, false, false, false, false, false, false, false, false, false] (by kernel_rfl) rfl rfl ?_ (fun hHeld => ?_)
  · exact ⟨hE1.out, hE2.out⟩
  have hD0 := Lib.hid (below_drew1 (Below.refl V.heap.size V))
  have hW0 : Hid (elemC V.drew (ad.add (m * 8)) z (.slice A' k' c') ∧ elemC V.drew (ad.add (m1 * 8)) z2 (.slice A2 k2 c2)) := Lib.hid ⟨hE1.out, hE2.out⟩
  generalize V.drew = X0 at *
  have hwm : Go.RowKit.wrap64 (m : Int) = (m : Int) := hwmH.out
  have hwm1 : Go.RowKit.wrap64 (m1 : Int) = (m1 : Int) := hwmH1.out
  refine pure_ (i := 0) (N := (some 133)) (v := ?_) (a' := ?_) #[true, false, false, false, false, false, false, false, false, false, false, false, false, false] rfl rfl (by kernel_rfl) (fun _ _ _ h => hP _ _ _ _ _ h) (Or.inl ⟨by rfl, ?_⟩) ?_ ?_
  rotate_left
  · intro w'
    go_simp
    with_reducible rfl
  rotate_left
  · simp only [Act.put, List.setIfInBounds_toArray, List.set_cons_zero, List.set_cons_succ, i64_w, i32_w]
    rfl
  refine pure_ (i := 1) (N := (some 134)) (v := ?_) (a' := ?_) #[true, true, false, false, false, false, false, false, false, false, false, false, false, false] rfl rfl (by kernel_rfl) (fun _ _ _ h => hP _ _ _ _ _ h) (Or.inl ⟨by rfl, ?_⟩) ?_ ?_
  rotate_left
  · intro w'
    go_simp
    with_reducible rfl
  rotate_left
  · simp only [Act.put, List.setIfInBounds_toArray, List.set_cons_zero, List.set_cons_succ, i64_w, i32_w]
    rfl
  refine pure_ (i := 2) (N := (some 135)) (v := ?_) (a' := ?_) #[true, true, true, false, false, false, false, false, false, false, false, false, false, false] rfl rfl (by kernel_rfl) (fun _ _ _ h => hP _ _ _ _ _ h) (Or.inl ⟨by rfl, ?_⟩) ?_ ?_
  rotate_left
  · intro w'
    go_simp
    with_reducible rfl
  rotate_left
  · simp only [Act.put, List.setIfInBounds_toArray, List.set_cons_zero, List.set_cons_succ, i64_w, i32_w]
    rfl
  refine pure_ (i := 3) (N := (some 136)) (v := ?_) (a' := ?_) #[true, true, true, true, false, false, false, false, false, false, false, false, false, false] rfl rfl (by kernel_rfl) (fun _ _ _ h => hP _ _ _ _ _ h) (Or.inl ⟨by rfl, ?_⟩) ?_ ?_
  rotate_left
  · intro w'
    go_simp
    with_reducible rfl
  rotate_left
  · simp only [Act.put, List.setIfInBounds_toArray, List.set_cons_zero, List.set_cons_succ, i64_w, i32_w]
    rfl
  refine take_ (i := 4) (N := (some 137)) (v := ?_) (a' := ?_) #[true, true, true, true, true, false, false, false, false, false, false, false, false, false] rfl rfl (by kernel_rfl) (fun _ _ _ h => hP _ _ _ _ _ h) (Or.inl ⟨by rfl, ?_⟩) hHeld ?_ ?_
  rotate_left
  · intro w' ⟨⟨e0, e1, e2, e3, e4, e5, e6, e7⟩, _⟩
    go_simp
    with_reducible rfl
  rotate_left
  · simp only [Act.put, List.setIfInBounds_toArray, List.set_cons_zero, List.set_cons_succ, i64_w, i32_w]
    rfl
  refine pure_ (i := 5) (N := (some 138)) (v := ?_) (a' := ?_) #[true, true, true, true, true, true, false, false, false, false, false, false, false, false] rfl rfl (by kernel_rfl) (fun _ _ _ h => hP _ _ _ _ _ h) (Or.inl ⟨by rfl, ?_⟩) ?_ ?_
  rotate_left
  · intro w'
    go_simp
    with_reducible rfl
  rotate_left
  · simp only [Act.put, List.setIfInBounds_toArray, List.set_cons_zero, List.set_cons_succ, i64_w, i32_w]
    rfl
  refine pure_ (i := 6) (N := (some 139)) (v := ?_) (a' := ?_) #[true, true, true, true, true, true, true, false, false, false, false, false, false, false] rfl rfl (by kernel_rfl) (fun _ _ _ h => hP _ _ _ _ _ h) (Or.inl ⟨by rfl, ?_⟩) ?_ ?_
  rotate_left
  · intro w'
    go_simp
    with_reducible rfl
  rotate_left
  · simp only [Act.put, List.setIfInBounds_toArray, List.set_cons_zero, List.set_cons_succ, i64_w, i32_w]
    rfl
  refine pure_ (i := 7) (N := (some 140)) (v := ?_) (a' := ?_) #[true, true, true, true, true, true, true, true, false, false, false, false, false, false] rfl rfl (by kernel_rfl) (fun _ _ _ h => hP _ _ _ _ _ h) (Or.inl ⟨by rfl, ?_⟩) ?_ ?_
  rotate_left
  · intro w'
    go_simp
    with_reducible rfl
  rotate_left
  · simp only [Act.put, List.setIfInBounds_toArray, List.set_cons_zero, List.set_cons_succ, i64_w, i32_w]
    rfl
  refine pure_ (i := 8) (N := (some 141)) (v := ?_) (a' := ?_) #[true, true, true, true, true, true, true, true, true, false, false, false, false, false] rfl rfl (by kernel_rfl) (fun _ _ _ h => hP _ _ _ _ _ h) (Or.inl ⟨by rfl, ?_⟩) ?_ ?_
  rotate_left
  · intro w'
    go_simp
    with_reducible rfl
  rotate_left
  · simp only [Act.put, List.setIfInBounds_toArray, List.set_cons_zero, List.set_cons_succ, i64_w, i32_w]
    rfl
  refine take_ (i := 9) (N := (some 142)) (v := ?_) (a' := ?_) #[true, true, true, true, true, true, true, true, true, true, false, false, false, false] rfl rfl (by kernel_rfl) (fun _ _ _ h => hP _ _ _ _ _ h) (Or.inl ⟨by rfl, ?_⟩) hHeld ?_ ?_
  rotate_left
  · intro w' ⟨_, ⟨e0, e1, e2, e3, e4, e5, e6, e7⟩⟩
    go_simp
    with_reducible rfl
  rotate_left
  · simp only [Act.put, List.setIfInBounds_toArray, List.set_cons_zero, List.set_cons_succ, i64_w, i32_w]
    rfl
  refine join_ (σ := Nat × Nat) 1 #[true, true, true, true, true, true, true, true, true, true, true, true, true, false] (fun s_ => [(143, .slice (some ⟨s_.1, 0, none⟩) 2 2), (144, .agg #[.int .i64 4, .int .u64 0, .int .u64 0, .int .u64 0, .int .u64 0, .int .i64 0, .int .i64 0, .slice (some ⟨s_.1, 0, none⟩) 2 2]), (12, .pointer (some ⟨s_.2, 0, none⟩))]) (fun s_ w' => Pair V w' z z2 (.slice A' k' c') (.slice A2 k2 c2) s_.1 s_.2) ?_ ?_
  rotate_left
  · intro hCont
    refine two_ (i := 10) (j := 12) (Ni := (some 143)) (Nj := (some 12)) #[true, true, true, true, true, true, true, true, true, true, true, false, false, false] #[true, true, true, true, true, true, true, true, true, true, false, false, true, false] rfl rfl rfl rfl (by kernel_rfl) (by decide) (by decide) (fun K hK => ?_) (fun K hK => ?_)
    · skip
      refine value_ (w1 := ?_) (v := ?_) (by rfl) rfl ?_ ?_
      rotate_left 2
      · go_simp
        constructor
        · rfl
        · rfl
      have hD1 := Lib.hid (below_alloc hD0.out (.cells (two16 z z2 (.slice A' k' c') (.slice A2 k2 c2)) 28))
      have hG1 := Lib.hid (Blk.new X0 28 (two16 z z2 (.slice A' k' c') (.slice A2 k2 c2)))
      have hW1 : Hid (elemC (X0.alloc (.cells (two16 z z2 (.slice A' k' c') (.slice A2 k2 c2)) 28)) (ad.add (m * 8)) z (.slice A' k' c') ∧ elemC (X0.alloc (.cells (two16 z z2 (.slice A' k' c') (.slice A2 k2 c2)) 28)) (ad.add (m1 * 8)) z2 (.slice A2 k2 c2)) := Lib.hid ⟨hW0.out.1.below (below_alloc (Below.refl _ _) _), hW0.out.2.below (below_alloc (Below.refl _ _) _)⟩
      refine hK.out _ _ hW1.out (fun hHeld => ?_)
      clear hK K
      refine norm_ (a' := ?_) ?_ ?_
      rotate_left
      · show Act.put _ (some 143) _ = _
        simp only [Act.put, List.setIfInBounds_toArray, List.set_cons_zero, List.set_cons_succ, i64_w, i32_w]
        rfl
      have hgS : V.heap.size ≤ X0.heap.size := hD0.out.size
      generalize X0.alloc (.cells (two16 z z2 (.slice A' k' c') (.slice A2 k2 c2)) 28) = X1 at *
      generalize X0.heap.size = G at *
      refine two_ (i := 11) (j := 12) (Ni := (some 144)) (Nj := (some 12)) #[true, true, true, true, true, true, true, true, true, true, true, true, false, false] #[true, true, true, true, true, true, true, true, true, true, true, false, true, false] rfl rfl rfl rfl (by kernel_rfl) (by decide) (by decide) (fun K hK => ?_) (fun K hK => ?_)
      · skip
        refine goes_ Try.func15 (by kernel_rfl) rfl #[.int .i64 4, .slice (some ⟨G, 0, none⟩) 2 2] (by rfl) rfl rfl (by simp only [List.map_toArray, List.map_cons, List.map_nil]; rfl) ?_
        refine (hma.out 4 (some ⟨G, 0, none⟩) 2 2 [z, z2] _).mono ?_
        rintro e X2 ⟨rfl, hbb⟩
        refine ⟨_, rfl, ?_⟩
        have hD2 := Lib.hid (below_then hD1.out hD1.out.size hbb)
        have hG2 := Lib.hid (hG1.out.below hbb hG1.out.lt)
        have hW2 : Hid (elemC X2 (ad.add (m * 8)) z (.slice A' k' c') ∧ elemC X2 (ad.add (m1 * 8)) z2 (.slice A2 k2 c2)) := Lib.hid ⟨hW1.out.1.below hbb, hW1.out.2.below hbb⟩
        refine hK.out _ _ hW2.out (fun hHeld => ?_)
        clear hK K
        refine norm_ (a' := ?_) ?_ ?_
        rotate_left
        · show Act.put _ (some 144) _ = _
          simp only [Act.put, List.setIfInBounds_toArray, List.set_cons_zero, List.set_cons_succ, i64_w, i32_w]
          rfl
        refine one_ (i := 12) (N := (some 12)) #[true, true, true, true, true, true, true, true, true, true, true, true, true, false] rfl rfl (by kernel_rfl) (by decide) (fun K hK => ?_)
        refine value_ (w1 := ?_) (v := ?_) (by rfl) rfl ?_ ?_
        rotate_left 2
        · go_simp
          constructor
          · rfl
          · rfl
        have hD3 := below_alloc hD2.out (.cells #[.int .i64 0, .int .u64 0, .int .u64 0, .int .u64 0, .int .u64 0, .int .i64 0, .int .i64 0, .slice none 0 0] 28)
        have hW3 : Hid (elemC (X2.alloc (.cells #[.int .i64 0, .int .u64 0, .int .u64 0, .int .u64 0, .int .u64 0, .int .i64 0, .int .i64 0, .slice none 0 0] 28)) (ad.add (m * 8)) z (.slice A' k' c') ∧ elemC (X2.alloc (.cells #[.int .i64 0, .int .u64 0, .int .u64 0, .int .u64 0, .int .u64 0, .int .i64 0, .int .i64 0, .slice none 0 0] 28)) (ad.add (m1 * 8)) z2 (.slice A2 k2 c2)) := Lib.hid ⟨hW2.out.1.below (below_alloc (Below.refl _ _) _), hW2.out.2.below (below_alloc (Below.refl _ _) _)⟩
        have hF3 : Pair V (X2.alloc (.cells #[.int .i64 0, .int .u64 0, .int .u64 0, .int .u64 0, .int .u64 0, .int .i64 0, .int .i64 0, .slice none 0 0] 28)) z z2 (.slice A' k' c') (.slice A2 k2 c2) G X2.heap.size := ⟨hD3, hG2.out.alloc _, Blk.new X2 28 #[.int .i64 0, .int .u64 0, .int .u64 0, .int .u64 0, .int .u64 0, .int .i64 0, .int .i64 0, .slice none 0 0], Nat.ne_of_lt hG2.out.lt, hgS, hD2.out.size⟩
        refine hK.out _ _ hW3.out (fun hHeld => ?_)
        clear hK K
        refine norm_ (a' := ?_) ?_ ?_
        rotate_left
        · show Act.put _ (some 12) _ = _
          simp only [Act.put, List.setIfInBounds_toArray, List.set_cons_zero, List.set_cons_succ, i64_w, i32_w]
          rfl
        exact norm_ (by simp only [putAll, Act.put, List.setIfInBounds_toArray, List.set_cons_zero, List.set_cons_succ]) (hCont (G, X2.heap.size) _ hF3)
      · skip
        refine value_ (w1 := ?_) (v := ?_) (by rfl) rfl ?_ ?_
        rotate_left 2
        · go_simp
          constructor
          · rfl
          · rfl
        have hD2 := Lib.hid (below_alloc hD1.out (.cells #[.int .i64 0, .int .u64 0, .int .u64 0, .int .u64 0, .int .u64 0, .int .i64 0, .int .i64 0, .slice none 0 0] 28))
        have hG2 := Lib.hid (hG1.out.alloc (.cells #[.int .i64 0, .int .u64 0, .int .u64 0, .int .u64 0, .int .u64 0, .int .i64 0, .int .i64 0, .slice none 0 0] 28))
        have hC2 := Lib.hid (Blk.new X1 28 #[.int .i64 0, .int .u64 0, .int .u64 0, .int .u64 0, .int .u64 0, .int .i64 0, .int .i64 0, .slice none 0 0])
        have hW2 : Hid (elemC (X1.alloc (.cells #[.int .i64 0, .int .u64 0, .int .u64 0, .int .u64 0, .int .u64 0, .int .i64 0, .int .i64 0, .slice none 0 0] 28)) (ad.add (m * 8)) z (.slice A' k' c') ∧ elemC (X1.alloc (.cells #[.int .i64 0, .int .u64 0, .int .u64 0, .int .u64 0, .int .u64 0, .int .i64 0, .int .i64 0, .slice none 0 0] 28)) (ad.add (m1 * 8)) z2 (.slice A2 k2 c2)) := Lib.hid ⟨hW1.out.1.below (below_alloc (Below.refl _ _) _), hW1.out.2.below (below_alloc (Below.refl _ _) _)⟩
        refine hK.out _ _ hW2.out (fun hHeld => ?_)
        clear hK K
        refine norm_ (a' := ?_) ?_ ?_
        rotate_left
        · show Act.put _ (some 12) _ = _
          simp only [Act.put, List.setIfInBounds_toArray, List.set_cons_zero, List.set_cons_succ, i64_w, i32_w]
          rfl
        have hbS : V.heap.size ≤ X1.heap.size := hD1.out.size
        have hbn : G ≠ X1.heap.size := Nat.ne_of_lt hG1.out.lt
        generalize X1.alloc (.cells #[.int .i64 0, .int .u64 0, .int .u64 0, .int .u64 0, .int .u64 0, .int .i64 0, .int .i64 0, .slice none 0 0] 28) = X2 at *
        generalize X1.heap.size = B at *
        refine one_ (i := 11) (N := (some 144)) #[true, true, true, true, true, true, true, true, true, true, true, true, true, false] rfl rfl (by kernel_rfl) (by decide) (fun K hK => ?_)
        refine goes_ Try.func15 (by kernel_rfl) rfl #[.int .i64 4, .slice (some ⟨G, 0, none⟩) 2 2] (by rfl) rfl rfl (by simp only [List.map_toArray, List.map_cons, List.map_nil]; rfl) ?_
        refine (hma.out 4 (some ⟨G, 0, none⟩) 2 2 [z, z2] _).mono ?_
        rintro e X3 ⟨rfl, hbb⟩
        refine ⟨_, rfl, ?_⟩
        have hW3 : Hid (elemC X3 (ad.add (m * 8)) z (.slice A' k' c') ∧ elemC X3 (ad.add (m1 * 8)) z2 (.slice A2 k2 c2)) := Lib.hid ⟨hW2.out.1.below hbb, hW2.out.2.below hbb⟩
        have hF3 : Pair V X3 z z2 (.slice A' k' c') (.slice A2 k2 c2) G B := ⟨below_then hD2.out hD2.out.size hbb, hG2.out.below hbb hG2.out.lt, hC2.out.below hbb hC2.out.lt, hbn, hgS, hbS⟩
        refine hK.out _ _ hW3.out (fun hHeld => ?_)
        clear hK K
        refine norm_ (a' := ?_) ?_ ?_
        rotate_left
        · show Act.put _ (some 144) _ = _
          simp only [Act.put, List.setIfInBounds_toArray, List.set_cons_zero, List.set_cons_succ, i64_w, i32_w]
          rfl
        exact norm_ (by simp only [putAll, Act.put, List.setIfInBounds_toArray, List.set_cons_zero, List.set_cons_succ]) (hCont (G, B) _ hF3)
    · skip
      refine value_ (w1 := ?_) (v := ?_) (by rfl) rfl ?_ ?_
      rotate_left 2
      · go_simp
        constructor
        · rfl
        · rfl
      have hD1 := Lib.hid (below_alloc hD0.out (.cells #[.int .i64 0, .int .u64 0, .int .u64 0, .int .u64 0, .int .u64 0, .int .i64 0, .int .i64 0, .slice none 0 0] 28))
      have hC1 := Lib.hid (Blk.new X0 28 #[.int .i64 0, .int .u64 0, .int .u64 0, .int .u64 0, .int .u64 0, .int .i64 0, .int .i64 0, .slice none 0 0])
      have hW1 : Hid (elemC (X0.alloc (.cells #[.int .i64 0, .int .u64 0, .int .u64 0, .int .u64 0, .int .u64 0, .int .i64 0, .int .i64 0, .slice none 0 0] 28)) (ad.add (m * 8)) z (.slice A' k' c') ∧ elemC (X0.alloc (.cells #[.int .i64 0, .int .u64 0, .int .u64 0, .int .u64 0, .int .u64 0, .int .i64 0, .int .i64 0, .slice none 0 0] 28)) (ad.add (m1 * 8)) z2 (.slice A2 k2 c2)) := Lib.hid ⟨hW0.out.1.below (below_alloc (Below.refl _ _) _), hW0.out.2.below (below_alloc (Below.refl _ _) _)⟩
      refine hK.out _ _ hW1.out (fun hHeld => ?_)
      clear hK K
      refine norm_ (a' := ?_) ?_ ?_
      rotate_left
      · show Act.put _ (some 12) _ = _
        simp only [Act.put, List.setIfInBounds_toArray, List.set_cons_zero, List.set_cons_succ, i64_w, i32_w]
        rfl
      have hbS : V.heap.size ≤ X0.heap.size := hD0.out.size
      generalize X0.alloc (.cells #[.int .i64 0, .int .u64 0, .int .u64 0, .int .u64 0, .int .u64 0, .int .i64 0, .int .i64 0, .slice none 0 0] 28) = X1 at *
      generalize X0.heap.size = B at *
      refine one_ (i := 10) (N := (some 143)) #[true, true, true, true, true, true, true, true, true, true, true, false, true, false] rfl rfl (by kernel_rfl) (by decide) (fun K hK => ?_)
      refine value_ (w1 := ?_) (v := ?_) (by rfl) rfl ?_ ?_
      rotate_left 2
      · go_simp
        constructor
        · rfl
        · rfl
      have hD2 := Lib.hid (below_alloc hD1.out (.cells (two16 z z2 (.slice A' k' c') (.slice A2 k2 c2)) 28))
      have hG2 := Lib.hid (Blk.new X1 28 (two16 z z2 (.slice A' k' c') (.slice A2 k2 c2)))
      have hC2 := Lib.hid (hC1.out.alloc (.cells (two16 z z2 (.slice A' k' c') (.slice A2 k2 c2)) 28))
      have hW2 : Hid (elemC (X1.alloc (.cells (two16 z z2 (.slice A' k' c') (.slice A2 k2 c2)) 28)) (ad.add (m * 8)) z (.slice A' k' c') ∧ elemC (X1.alloc (.cells (two16 z z2 (.slice A' k' c') (.slice A2 k2 c2)) 28)) (ad.add (m1 * 8)) z2 (.slice A2 k2 c2)) := Lib.hid ⟨hW1.out.1.below (below_alloc (Below.refl _ _) _), hW1.out.2.below (below_alloc (Below.refl _ _) _)⟩
      refine hK.out _ _ hW2.out (fun hHeld => ?_)
      clear hK K
      refine norm_ (a' := ?_) ?_ ?_
      rotate_left
      · show Act.put _ (some 143) _ = _
        simp only [Act.put, List.setIfInBounds_toArray, List.set_cons_zero, List.set_cons_succ, i64_w, i32_w]
        rfl
      have hgS : V.heap.size ≤ X1.heap.size := hD1.out.size
      have hbn : X1.heap.size ≠ B := Nat.ne_of_gt hC1.out.lt
      generalize X1.alloc (.cells (two16 z z2 (.slice A' k' c') (.slice A2 k2 c2)) 28) = X2 at *
      generalize X1.heap.size = G at *
      refine one_ (i := 11) (N := (some 144)) #[true, true, true, true, true, true, true, true, true, true, true, true, true, false] rfl rfl (by kernel_rfl) (by decide) (fun K hK => ?_)
      refine goes_ Try.func15 (by kernel_rfl) rfl #[.int .i64 4, .slice (some ⟨G, 0, none⟩) 2 2] (by rfl) rfl rfl (by simp only [List.map_toArray, List.map_cons, List.map_nil]; rfl) ?_
      refine (hma.out 4 (some ⟨G, 0, none⟩) 2 2 [z, z2] _).mono ?_
      rintro e X3 ⟨rfl, hbb⟩
      refine ⟨_, rfl, ?_⟩
      have hW3 : Hid (elemC X3 (ad.add (m * 8)) z (.slice A' k' c') ∧ elemC X3 (ad.add (m1 * 8)) z2 (.slice A2 k2 c2)) := Lib.hid ⟨hW2.out.1.below hbb, hW2.out.2.below hbb⟩
      have hF3 : Pair V X3 z z2 (.slice A' k' c') (.slice A2 k2 c2) G B := ⟨below_then hD2.out hD2.out.size hbb, hG2.out.below hbb hG2.out.lt, hC2.out.below hbb hC2.out.lt, hbn, hgS, hbS⟩
      refine hK.out _ _ hW3.out (fun hHeld => ?_)
      clear hK K
      refine norm_ (a' := ?_) ?_ ?_
      rotate_left
      · show Act.put _ (some 144) _ = _
        simp only [Act.put, List.setIfInBounds_toArray, List.set_cons_zero, List.set_cons_succ, i64_w, i32_w]
        rfl
      exact norm_ (by simp only [putAll, Act.put, List.setIfInBounds_toArray, List.set_cons_zero, List.set_cons_succ]) (hCont (G, B) _ hF3)
  rintro ⟨G, B⟩ X4 hF
  refine norm_ (a' := ?_) ?_ ?_
  rotate_left
  · simp only [putAll, Act.put, List.setIfInBounds_toArray, List.set_cons_zero, List.set_cons_succ]
    rfl
  have hFH := Lib.hid hF
  clear hF hW0 hD0
  have c0 := hFH.out.c.cell 0
  have c1 := hFH.out.c.cell 1
  have c2_ := hFH.out.c.cell 2
  have c3_ := hFH.out.c.cell 3
  have c4 := hFH.out.c.cell 4
  have c5 := hFH.out.c.cell 5
  have c6 := hFH.out.c.cell 6
  have c7 := hFH.out.c.cell 7
  have g0 := hFH.out.c.frozen 0
  have g1 := hFH.out.c.frozen 1
  have g2 := hFH.out.c.frozen 2
  have g3 := hFH.out.c.frozen 3
  have g4 := hFH.out.c.frozen 4
  have g5 := hFH.out.c.frozen 5
  have g6 := hFH.out.c.frozen 6
  have g7 := hFH.out.c.frozen 7
  simp only [List.getElem?_toArray, List.getElem?_cons_zero, List.getElem?_cons_succ] at c0 c1 c2_ c3_ c4 c5 c6 c7
  refine last_ (i := 13) (N := none) #[true, true, true, true, true, true, true, true, true, true, true, true, true, true] rfl rfl (by kernel_rfl) (by decide) (fun K hK => ?_)
  refine skip_ (w1 := ?_) (by rfl) rfl ?_ ?_
  rotate_left
  · go_simp
    rfl
  refine hK.out _ _ ?_
  clear hK K
  refine done_ (by kernel_rfl) ?_
  have hX8 : Hid (Blk ((((((((X4.setCell ⟨B, 0, none⟩ (.int .i64 4)).setCell ⟨B, 1, none⟩ (.int .u64 0)).setCell ⟨B, 2, none⟩ (.int .u64 0)).setCell ⟨B, 3, none⟩ (.int .u64 0)).setCell ⟨B, 4, none⟩ (.int .u64 0)).setCell ⟨B, 5, none⟩ (.int .i64 0)).setCell ⟨B, 6, none⟩ (.int .i64 0)).setCell ⟨B, 7, none⟩ (.slice (some ⟨G, 0, none⟩) 2 2)) B 28 #[.int .i64 4, .int .u64 0, .int .u64 0, .int .u64 0, .int .u64 0, .int .i64 0, .int .i64 0, .slice (some ⟨G, 0, none⟩) 2 2]) := Lib.hid (set8 hFH.out.c _ _ _ _ _ _ _ _)
  have hG8 : Hid (Blk ((((((((X4.setCell ⟨B, 0, none⟩ (.int .i64 4)).setCell ⟨B, 1, none⟩ (.int .u64 0)).setCell ⟨B, 2, none⟩ (.int .u64 0)).setCell ⟨B, 3, none⟩ (.int .u64 0)).setCell ⟨B, 4, none⟩ (.int .u64 0)).setCell ⟨B, 5, none⟩ (.int .i64 0)).setCell ⟨B, 6, none⟩ (.int .i64 0)).setCell ⟨B, 7, none⟩ (.slice (some ⟨G, 0, none⟩) 2 2)) G 28 ((two16 z z2 (.slice A' k' c') (.slice A2 k2 c2)))) := Lib.hid (far8 hFH.out.g hFH.out.ne _ _ _ _ _ _ _ _)
  have hB8 : Hid (Below V.heap.size V ((((((((X4.setCell ⟨B, 0, none⟩ (.int .i64 4)).setCell ⟨B, 1, none⟩ (.int .u64 0)).setCell ⟨B, 2, none⟩ (.int .u64 0)).setCell ⟨B, 3, none⟩ (.int .u64 0)).setCell ⟨B, 4, none⟩ (.int .u64 0)).setCell ⟨B, 5, none⟩ (.int .i64 0)).setCell ⟨B, 6, none⟩ (.int .i64 0)).setCell ⟨B, 7, none⟩ (.slice (some ⟨G, 0, none⟩) 2 2))) := Lib.hid (below8 hFH.out.b hFH.out.bl _ _ _ _ _ _ _ _)
  have hGl := Lib.hid hFH.out.gl
  clear hwm hwm1 hHeld hFH c0 c1 c2_ c3_ c4 c5 c6 c7 g0 g1 g2 g3 g4 g5 g6 g7
  generalize ((((((((X4.setCell ⟨B, 0, none⟩ (.int .i64 4)).setCell ⟨B, 1, none⟩ (.int .u64 0)).setCell ⟨B, 2, none⟩ (.int .u64 0)).setCell ⟨B, 3, none⟩ (.int .u64 0)).setCell ⟨B, 4, none⟩ (.int .u64 0)).setCell ⟨B, 5, none⟩ (.int .i64 0)).setCell ⟨B, 6, none⟩ (.int .i64 0)).setCell ⟨B, 7, none⟩ (.slice (some ⟨G, 0, none⟩) 2 2)) = X5 at *
  have hN8 := Lib.hid (mk_two 4 hM3.out hgl hGl.out hNzH.out hNzH2.out hG8.out hB8.out)
  have hM8 : Hid (MkAt W0 X5 (.slice (some ⟨g2, 0, none⟩) m1 k3) (l.take m1)) := (by have h := (hM3.out.below hB8.out).take (m := m1) hm10; rw [hadH.out] at h; exact Lib.hid h)
  have e0 := hX8.out.cell 0
  have e1 := hX8.out.cell 1
  have e2 := hX8.out.cell 2
  have e3 := hX8.out.cell 3
  have e4 := hX8.out.cell 4
  have e5 := hX8.out.cell 5
  have e6 := hX8.out.cell 6
  have e7 := hX8.out.cell 7
  simp only [List.getElem?_toArray, List.getElem?_cons_zero, List.getElem?_cons_succ] at e0 e1 e2 e3 e4 e5 e6 e7
  go_wp2_with ((with_reducible refine gate_store (t := 28) (p := 153) rfl ?_); refine st8 (W0 := W0) (g := g2) (m := m) (o' := m * 8) (x' := .mk 4 0 0 0 0 0 0 [z, z2]) (v' := .slice (some ⟨G, 0, none⟩) 2 2) 153 152 rfl rfl rfl (by show Value.pointer (some (ad.add (m * 8))) = _; rw [hadH.out, add_off0]) rfl rfl rfl rfl rfl hM8.out hm11 hN8.out ((Gd_mk _ _ _ _ _ _ _ _).2 ⟨by simp, ⟨by decide, by decide⟩, ⟨by decide, by decide⟩, ⟨u64_0, u64_0, u64_0, u64_0⟩, fun k hk => by rcases List.mem_cons.1 hk with rfl | hk; exact hgz.out; rw [List.mem_singleton.1 hk]; exact hgz2.out⟩) ?_; intro w9 hMN)
  unfold EndS; (repeat apply Exists.intro); exact ⟨⟨(l.take m1).set m (.mk 4 0 0 0 0 0 0 [z, z2]), by rw [List.length_set, List.length_take, Nat.min_eq_left hm10]; exact hm13, Lib.hid (by rw [hadH.out]; exact hMN.out)⟩, rfl⟩
set_option maxRecDepth 20000 in
set_option maxHeartbeats 4000000 in
theorem mkT7 (c0 c1 c2 c187 c188 c189 c190 c191 c192 c193 c194 : Value) (u8 u9 u10 u11 u12 u13 u14 u15 u16 u17 u18 u19 u20 u21 u22 u23 u24 u25 u26 u27 u28 u29 u30 u31 u32 u33 u34 u35 u36 u37 u38 u39 u40 u41 u42 u43 u44 u45 u46 u47 u48 u49 u50 u51 u52 u53 u54 u55 u56 u57 u58 u59 u60 u61 u62 u63 u64 u65 u66 u67 u68 u69 u70 u71 u72 u73 u74 u75 u76 u77 u78 u79 u80 u81 u82 u83 u84 u85 u86 u87 u88 u89 u90 u91 u92 u93 u94 u95 u96 u97 u98 u99 u100 u101 u102 u103 u104 u105 u106 u107 u108 u109 u110 u111 u112 u113 u114 u115 u116 u117 u118 u119 u120 u121 u122 u123 u124 u125 u126 u127 u128 u129 u130 u131 u132 u133 u134 u135 u136 u137 u138 u139 u140 u141 u142 u143 u144 u145 u146 u147 u148 u149 u150 u151 u152 u153 u154 u155 u156 u157 u158 u159 u160 u161 u162 u163 u164 u165 u166 u167 u168 u169 u170 u171 u172 u173 u174 u175 u176 u177 u178 u179 u180 u181 u182 u183 u184 u185 u186 : Value) (W0 V : World) (A3 : Option Addr) (k3 i x y bl : Nat) (l : List Nd) (q0 q1 q2 q3 : Int) (hll2 : l.length ≤ 1000) (hx256 : x < 256) (hy : y < 256) (hyl : 97 ≤ y) (hby : Hid ((97 + (x : Int) / 8 % 3) = (y : Int))) (hlen : Hid (l.length ≤ k3)) (hM3 : Hid (MkAt W0 V (.slice A3 l.length k3) l)) (hL3 : Hid (Blk V bl 28 #[.int .i64 0, .int .u64 q0, .int .u64 q1, .int .u64 q2, .int .u64 q3, .int .i64 0, .int .i64 0, .slice none 0 0])) (hq : Hid (U64 q0 ∧ U64 q1 ∧ U64 q2 ∧ U64 q3)) (Q : Exit → Act → World → Prop) (hP : ∀ ch (a : Act) N v w', Q (.panic ch) (a.put N v) w' → Q (.panic ch) a w') (hQ : ∀ a' w', EndS c0 c1 c2 c187 c188 c189 c190 c191 c192 c193 c194 W0 i l.length a' w' → Q .normal a' w') (h8 : (x : Int) % 8 = 7) (hn : 1 ≤ l.length) :
    Code.wp Try.prog (thenOf mkS4) Q ⟨#[c0, c1, c2, .slice A3 l.length k3, .int .i64 i, .int .i64 x, .int .i64 l.length, .pointer (some ⟨bl, 0, none⟩), u8, u9, u10, u11, u12, u13, u14, u15, u16, u17, u18, u19, u20, u21, u22, u23, u24, u25, u26, u27, u28, u29, u30, u31, u32, u33, u34, u35, u36, u37, u38, u39, u40, u41, u42, u43, u44, u45, u46, u47, u48, u49, u50, u51, u52, u53, u54, u55, u56, u57, u58, u59, u60, u61, u62, u63, u64, u65, u66, u67, u68, u69, u70, u71, u72, u73, u74, u75, u76, u77, u78, u79, u80, u81, u82, u83, u84, u85, u86, u87, u88, u89, u90, u91, u92, u93, u94, u95, u96, u97, u98, u99, u100, u101, u102, u103, u104, u105, u106, u107, u108, u109, u110, u111, u112, u113, u114, u115, u116, u117, u118, u119, u120, u121, u122, u123, u124, u125, u126, u127, u128, u129, u130, u131, u132, u133, u134, u135, u136, u137, u138, u139, u140, u141, u142, u143, u144, u145, u146, u147, u148, u149, u150, u151, u152, u153, u154, u155, u156, u157, u158, u159, u160, u161, u162, u163, u164, u165, u166, u167, u168, u169, u170, u171, u172, u173, u174, u175, u176, u177, u178, u179, u180, u181, u182, u183, u184, u185, u186, c187, c188, c189, c190, c191, c192, c193, c194], []⟩ V := by
  conv => arg 2; whnf
  have hma := Lib.hid (show ∀ (op : Int) (A : Option Addr) (n c : Nat) (ks : List Nd) (w : World), Calls Try.prog 15 #[.int .i64 op, .slice A n c] w fun e w' => e = .returned (.agg #[.int .i64 op, .int .u64 0, .int .u64 0, .int .u64 0, .int .u64 0, .int .i64 0, .int .i64 0, .slice A n c]) ∧ Below w.heap.size w w' from fun op A n c ks w => many_c op A n c ks w)
  obtain ⟨m, hm⟩ : ∃ m, m + 1 = l.length := ⟨l.length - 1, by omega⟩
  obtain ⟨ad, g, A', c', k', z, hA, had, hgl, hz, hlz, hNz, d0, d1, d2, d3, d4, d5, d6, d7⟩ := hM3.out.elem (m := m) (by omega)
  subst hA
  have hadH := Lib.hid had
  have hNzH := Lib.hid hNz
  have hgz := Lib.hid (hM3.out.g z hz)
  have hm1 : (l.length : Int) - 1 = (m : Int) := by omega
  have hm2 : (0 : Int) ≤ (m : Int) := by omega
  have hm3 : (m : Int) < (l.length : Int) := by omega
  have hm4 : decide (0 < l.length) = true := decide_eq_true (by omega)
  have hm5 : 0 < l.length := by omega
  have hmH := Lib.hid hm
  clear had hNz hn hm hz
  go_wp2_with (first
    | (go_at_call 15; refine (hma.out 5 (some ⟨V.heap.size, 0, none⟩) 1 1 [z] _).mono ?_; rintro e w5 ⟨rfl, hB5⟩; have hB6 := below_then (below_alloc (Below.refl V.heap.size V) (.cells #[.int .i64 z.op, .int .u64 z.s0, .int .u64 z.s1, .int .u64 z.s2, .int .u64 z.s3, .int .i64 z.mn, .int .i64 z.mx, .slice A' k' c'] 28)) (below_alloc (Below.refl V.heap.size V) (.cells #[.int .i64 z.op, .int .u64 z.s0, .int .u64 z.s1, .int .u64 z.s2, .int .u64 z.s3, .int .i64 z.mn, .int .i64 z.mx, .slice A' k' c'] 28)).size hB5; have hM6 : Hid (MkAt W0 w5 (.slice (some ⟨g, 0, none⟩) l.length k3) l) := (by have h := hM3.out.below hB6; rw [hadH.out] at h; exact Lib.hid h); have hN6 := Lib.hid (mk_one 0 0 5 hM3.out hgl (Nat.le_refl _) hNzH.out ((Blk.new V 28 #[.int .i64 z.op, .int .u64 z.s0, .int .u64 z.s1, .int .u64 z.s2, .int .u64 z.s3, .int .i64 z.mn, .int .i64 z.mx, .slice A' k' c']).below hB5 (by simp)) hB6); clear hB5 hB6)
    | ((with_reducible refine gate_store (t := 28) (p := 172) rfl ?_); refine st8 (W0 := W0) (g := g) (m := m) (o' := m * 8) (x' := .mk 5 0 0 0 0 0 0 [z]) (v' := .slice (some ⟨V.heap.size, 0, none⟩) 1 1) 172 171 rfl rfl rfl (by show Value.pointer (some (ad.add (m * 8))) = _; rw [hadH.out, add_off0]) rfl rfl rfl rfl rfl hM6.out (by omega) hN6.out ((Gd_mk _ _ _ _ _ _ _ _).2 ⟨by simp, by omega, by omega, ⟨u64_0, u64_0, u64_0, u64_0⟩, fun k hk => by rw [List.mem_singleton.1 hk]; exact hgz.out⟩) ?_; intro w9 hMN))
  unfold EndS; (repeat apply Exists.intro); exact ⟨⟨l.set m (.mk 5 0 0 0 0 0 0 [z]), by rw [List.length_set]; omega, Lib.hid (by rw [hadH.out]; exact hMN.out)⟩, rfl⟩
set_option maxRecDepth 20000 in
set_option maxHeartbeats 4000000 in
theorem mkT2 (c0 c1 c2 c187 c188 c189 c190 c191 c192 c193 c194 : Value) (u8 u9 u10 u11 u12 u13 u14 u15 u16 u17 u18 u19 u20 u21 u22 u23 u24 u25 u26 u27 u28 u29 u30 u31 u32 u33 u34 u35 u36 u37 u38 u39 u40 u41 u42 u43 u44 u45 u46 u47 u48 u49 u50 u51 u52 u53 u54 u55 u56 u57 u58 u59 u60 u61 u62 u63 u64 u65 u66 u67 u68 u69 u70 u71 u72 u73 u74 u75 u76 u77 u78 u79 u80 u81 u82 u83 u84 u85 u86 u87 u88 u89 u90 u91 u92 u93 u94 u95 u96 u97 u98 u99 u100 u101 u102 u103 u104 u105 u106 u107 u108 u109 u110 u111 u112 u113 u114 u115 u116 u117 u118 u119 u120 u121 u122 u123 u124 u125 u126 u127 u128 u129 u130 u131 u132 u133 u134 u135 u136 u137 u138 u139 u140 u141 u142 u143 u144 u145 u146 u147 u148 u149 u150 u151 u152 u153 u154 u155 u156 u157 u158 u159 u160 u161 u162 u163 u164 u165 u166 u167 u168 u169 u170 u171 u172 u173 u174 u175 u176 u177 u178 u179 u180 u181 u182 u183 u184 u185 u186 : Value) (W0 V : World) (A3 : Option Addr) (k3 i x y bl : Nat) (l : List Nd) (q0 q1 q2 q3 : Int) (hll2 : l.length ≤ 1000) (hx256 : x < 256) (hy : y < 256) (hyl : 97 ≤ y) (hby : Hid ((97 + (x : Int) / 8 % 3) = (y : Int))) (hlen : Hid (l.length ≤ k3)) (hM3 : Hid (MkAt W0 V (.slice A3 l.length k3) l)) (hL3 : Hid (Blk V bl 28 #[.int .i64 0, .int .u64 q0, .int .u64 q1, .int .u64 q2, .int .u64 q3, .int .i64 0, .int .i64 0, .slice none 0 0])) (hq : Hid (U64 q0 ∧ U64 q1 ∧ U64 q2 ∧ U64 q3)) (Q : Exit → Act → World → Prop) (hP : ∀ ch (a : Act) N v w', Q (.panic ch) (a.put N v) w' → Q (.panic ch) a w') (hQ : ∀ a' w', EndS c0 c1 c2 c187 c188 c189 c190 c191 c192 c193 c194 W0 i l.length a' w' → Q .normal a' w') (h8 : (x : Int) % 8 = 2) :
    Code.wp Try.prog (thenOf mkS5) Q ⟨#[c0, c1, c2, .slice A3 l.length k3, .int .i64 i, .int .i64 x, .int .i64 l.length, .pointer (some ⟨bl, 0, none⟩), u8, u9, u10, u11, u12, u13, u14, u15, u16, u17, u18, u19, u20, u21, u22, u23, u24, u25, u26, u27, u28, u29, u30, u31, u32, u33, u34, u35, u36, u37, u38, u39, u40, u41, u42, u43, u44, u45, u46, u47, u48, u49, u50, u51, u52, u53, u54, u55, u56, u57, u58, u59, u60, u61, u62, u63, u64, u65, u66, u67, u68, u69, u70, u71, u72, u73, u74, u75, u76, u77, u78, u79, u80, u81, u82, u83, u84, u85, u86, u87, u88, u89, u90, u91, u92, u93, u94, u95, u96, u97, u98, u99, u100, u101, u102, u103, u104, u105, u106, u107, u108, u109, u110, u111, u112, u113, u114, u115, u116, u117, u118, u119, u120, u121, u122, u123, u124, u125, u126, u127, u128, u129, u130, u131, u132, u133, u134, u135, u136, u137, u138, u139, u140, u141, u142, u143, u144, u145, u146, u147, u148, u149, u150, u151, u152, u153, u154, u155, u156, u157, u158, u159, u160, u161, u162, u163, u164, u165, u166, u167, u168, u169, u170, u171, u172, u173, u174, u175, u176, u177, u178, u179, u180, u181, u182, u183, u184, u185, u186, c187, c188, c189, c190, c191, c192, c193, c194], []⟩ V := by
  conv => arg 2; whnf
  have hse := Lib.hid (show ∀ (s0 s1 s2 s3 : Int) (w : World), Calls Try.prog 23 #[setV s0 s1 s2 s3] w fun e w' => e = .returned (.agg #[.int .i64 0, .int .u64 s0, .int .u64 s1, .int .u64 s2, .int .u64 s3, .int .i64 0, .int .i64 0, .slice none 0 0]) ∧ Below w.heap.size w w' from fun s0 s1 s2 s3 w => set_c s0 s1 s2 s3 w)
  have hra := Lib.hid (show ∀ (b : Nat) (hab : 97 ≤ b) (hb : b < 256) (w : World), Calls Try.prog 25 #[.int .u8 97, .int .u8 (b : Int)] w fun e w' => e = .returned (setV (rgk 0 97 (b - 96)) (rgk 1 97 (b - 96)) (rgk 2 97 (b - 96)) (rgk 3 97 (b - 96))) ∧ Below w.heap.size w w' from fun b hab hb w => by have h := range_c 97 b hab hb w; rw [show b + 1 - 97 = b - 96 by omega] at h; exact h)
  have hm8 : (x : Int) % 8 = 2 := h8
  have hVs := Lib.hid hM3.out.b.size
  go_wp2_with (first
    | (go_at_call 25; rw [hby.out]; refine (hra.out y hyl hy _).mono ?_; rintro e w5 ⟨rfl, hB5⟩; have hM5 := Lib.hid (hM3.out.below hB5); clear hB5)
    | (go_at_call 23; refine (hse.out _ _ _ _ _).mono ?_; rintro e w6 ⟨rfl, hB6⟩; have hM6 := Lib.hid (hM5.out.below hB6); clear hB6; have hU := Lib.hid (show U64 (rgk 0 97 (y - 96)) ∧ U64 (rgk 1 97 (y - 96)) ∧ U64 (rgk 2 97 (y - 96)) ∧ U64 (rgk 3 97 (y - 96)) from ⟨u64_rgk _ _ _, u64_rgk _ _ _, u64_rgk _ _ _, u64_rgk _ _ _⟩); generalize rgk 0 97 (y - 96) = p0 at *; generalize rgk 1 97 (y - 96) = p1 at *; generalize rgk 2 97 (y - 96) = p2 at *; generalize rgk 3 97 (y - 96) = p3 at *; have hVs6 := Lib.hid hM6.out.b.size)
    | ((with_reducible refine gate_builtin (b := .append) (xs := #[.tmp 177, .tmp 185]) rfl ?_); at_builtin; go_loud (refine Kd.R_append kNd (w0 := W0) W0.heap.size rfl (.tmp 177) (.tmp 185) 26 28 (.agg #[.int .i64 0, .int .u64 0, .int .u64 0, .int .u64 0, .int .u64 0, .int .i64 0, .int .i64 0, .slice none 0 0]) 80 rfl Try.underlying26 info28' rfl (by decide) (by decide) (.slice A3 l.length k3) l (setN p0 p1 p2 p3) (ndCells (setN p0 p1 p2 p3) (.slice none 0 0)) (fun _ => True) (fun _ => False) rfl rfl (NM_set _ _ _ _ _ _ _) (fun _ hk => hk.elim) (fun _ _ => trivial) hM6.out.r hM6.out.b hVs6.out (by omega) ?_; intro v9 w9 ho9 hb9 hg9 hat9; have hMN := Lib.hid (show MkAt W0 w9 v9 (l ++ [setN p0 p1 p2 p3]) from ⟨ho9, hb9, fun z hz => (List.mem_append.1 hz).elim (hM6.out.g z) (fun h => by rw [List.mem_singleton.1 h]; exact gd_set hU.out.1 hU.out.2.1 hU.out.2.2.1 hU.out.2.2.2)⟩); clear ho9 hb9 hg9 hat9)))
  unfold EndS; (repeat apply Exists.intro); exact ⟨⟨_, by rw [List.length_append, List.length_singleton]; exact Nat.le_refl _, hMN⟩, rfl⟩
set_option maxRecDepth 20000 in
set_option maxHeartbeats 4000000 in
theorem mkE5 (c0 c1 c2 c187 c188 c189 c190 c191 c192 c193 c194 : Value) (u8 u9 u10 u11 u12 u13 u14 u15 u16 u17 u18 u19 u20 u21 u22 u23 u24 u25 u26 u27 u28 u29 u30 u31 u32 u33 u34 u35 u36 u37 u38 u39 u40 u41 u42 u43 u44 u45 u46 u47 u48 u49 u50 u51 u52 u53 u54 u55 u56 u57 u58 u59 u60 u61 u62 u63 u64 u65 u66 u67 u68 u69 u70 u71 u72 u73 u74 u75 u76 u77 u78 u79 u80 u81 u82 u83 u84 u85 u86 u87 u88 u89 u90 u91 u92 u93 u94 u95 u96 u97 u98 u99 u100 u101 u102 u103 u104 u105 u106 u107 u108 u109 u110 u111 u112 u113 u114 u115 u116 u117 u118 u119 u120 u121 u122 u123 u124 u125 u126 u127 u128 u129 u130 u131 u132 u133 u134 u135 u136 u137 u138 u139 u140 u141 u142 u143 u144 u145 u146 u147 u148 u149 u150 u151 u152 u153 u154 u155 u156 u157 u158 u159 u160 u161 u162 u163 u164 u165 u166 u167 u168 u169 u170 u171 u172 u173 u174 u175 u176 u177 u178 u179 u180 u181 u182 u183 u184 u185 u186 : Value) (W0 V : World) (A3 : Option Addr) (k3 i x y bl : Nat) (l : List Nd) (q0 q1 q2 q3 : Int) (hll2 : l.length ≤ 1000) (hx256 : x < 256) (hy : y < 256) (hyl : 97 ≤ y) (hby : Hid ((97 + (x : Int) / 8 % 3) = (y : Int))) (hlen : Hid (l.length ≤ k3)) (hM3 : Hid (MkAt W0 V (.slice A3 l.length k3) l)) (hL3 : Hid (Blk V bl 28 #[.int .i64 0, .int .u64 q0, .int .u64 q1, .int .u64 q2, .int .u64 q3, .int .i64 0, .int .i64 0, .slice none 0 0])) (hq : Hid (U64 q0 ∧ U64 q1 ∧ U64 q2 ∧ U64 q3)) (Q : Exit → Act → World → Prop) (hP : ∀ ch (a : Act) N v w', Q (.panic ch) (a.put N v) w' → Q (.panic ch) a w') (hQ : ∀ a' w', EndS c0 c1 c2 c187 c188 c189 c190 c191 c192 c193 c194 W0 i l.length a' w' → Q .normal a' w')  :
    Code.wp Try.prog mkS5 Q ⟨#[c0, c1, c2, .slice A3 l.length k3, .int .i64 i, .int .i64 x, .int .i64 l.length, .pointer (some ⟨bl, 0, none⟩), u8, u9, u10, u11, u12, u13, u14, u15, u16, u17, u18, u19, u20, u21, u22, u23, u24, u25, u26, u27, u28, u29, u30, u31, u32, u33, u34, u35, u36, u37, u38, u39, u40, u41, u42, u43, u44, u45, u46, u47, u48, u49, u50, u51, u52, u53, u54, u55, u56, u57, u58, u59, u60, u61, u62, u63, u64, u65, u66, u67, u68, u69, u70, u71, u72, u73, u74, u75, u76, u77, u78, u79, u80, u81, u82, u83, u84, u85, u86, u87, u88, u89, u90, u91, u92, u93, u94, u95, u96, u97, u98, u99, u100, u101, u102, u103, u104, u105, u106, u107, u108, u109, u110, u111, u112, u113, u114, u115, u116, u117, u118, u119, u120, u121, u122, u123, u124, u125, u126, u127, u128, u129, u130, u131, u132, u133, u134, u135, u136, u137, u138, u139, u140, u141, u142, u143, u144, u145, u146, u147, u148, u149, u150, u151, u152, u153, u154, u155, u156, u157, u158, u159, u160, u161, u162, u163, u164, u165, u166, u167, u168, u169, u170, u171, u172, u173, u174, u175, u176, u177, u178, u179, u180, u181, u182, u183, u184, u185, u186, c187, c188, c189, c190, c191, c192, c193, c194], []⟩ V := by
  conv => arg 2; whnf
  by_cases h8 : (x : Int) % 8 = 2
  · have h9 : decide ((x : Int) % 8 = 2) = true := decide_eq_true h8
    go_upto_if 173 with (fail)
    refine wp_cond_true (by show Value.bool _ = _; first | rfl | (simp only [h8, h9]; done) | simp [h8, h9]) ?_
    exact mkT2 _ _ _ _ _ _ _ _ _ _ _ _ _ _ _ _ _ _ _ _ _ _ _ _ _ _ _ _ _ _ _ _ _ _ _ _ _ _ _ _ _ _ _ _ _ _ _ _ _ _ _ _ _ _ _ _ _ _ _ _ _ _ _ _ _ _ _ _ _ _ _ _ _ _ _ _ _ _ _ _ _ _ _ _ _ _ _ _ _ _ _ _ _ _ _ _ _ _ _ _ _ _ _ _ _ _ _ _ _ _ _ _ _ _ _ _ _ _ _ _ _ _ _ _ _ _ _ _ _ _ _ _ _ _ _ _ _ _ _ _ _ _ _ _ _ _ _ _ _ _ _ _ _ _ _ _ _ _ _ _ _ _ _ _ _ _ _ _ _ _ _ _ _ _ _ _ _ _ _ _ _ _ _ _ _ _ _ _ _ _ W0 V A3 k3 i x y bl l q0 q1 q2 q3 hll2 hx256 hy hyl hby hlen hM3 hL3 hq Q hP hQ h8
  · have h9 : decide ((x : Int) % 8 = 2) = false := decide_eq_false h8
    go_upto_if 173 with (fail)
    refine wp_cond_false (by show Value.bool _ = _; first | rfl | (simp only [h8, h9]; done) | simp [h8, h9]) ?_
    exact mkA _ _ _ _ _ _ _ _ _ _ _ _ _ _ _ _ _ _ _ _ _ _ _ _ _ _ _ _ _ _ _ _ _ _ _ _ _ _ _ _ _ _ _ _ _ _ _ _ _ _ _ _ _ _ _ _ _ _ _ _ _ _ _ _ _ _ _ _ _ _ _ _ _ _ _ _ _ _ _ _ _ _ _ _ _ _ _ _ _ _ _ _ _ _ _ _ _ _ _ _ _ _ _ _ _ _ _ _ _ _ _ _ _ _ _ _ _ _ _ _ _ _ _ _ _ _ _ _ _ _ _ _ _ _ _ _ _ _ _ _ _ _ _ _ _ _ _ _ _ _ _ _ _ _ _ _ _ _ _ _ _ _ _ _ _ _ _ _ _ _ _ _ _ _ _ _ _ _ _ _ _ _ _ _ _ _ _ _ _ _ W0 V A3 k3 i x y bl l q0 q1 q2 q3 hll2 hx256 hy hyl hby hlen hM3 hL3 hq Q hP hQ
set_option maxRecDepth 20000 in
set_option maxHeartbeats 4000000 in
theorem mkE4 (c0 c1 c2 c187 c188 c189 c190 c191 c192 c193 c194 : Value) (u8 u9 u10 u11 u12 u13 u14 u15 u16 u17 u18 u19 u20 u21 u22 u23 u24 u25 u26 u27 u28 u29 u30 u31 u32 u33 u34 u35 u36 u37 u38 u39 u40 u41 u42 u43 u44 u45 u46 u47 u48 u49 u50 u51 u52 u53 u54 u55 u56 u57 u58 u59 u60 u61 u62 u63 u64 u65 u66 u67 u68 u69 u70 u71 u72 u73 u74 u75 u76 u77 u78 u79 u80 u81 u82 u83 u84 u85 u86 u87 u88 u89 u90 u91 u92 u93 u94 u95 u96 u97 u98 u99 u100 u101 u102 u103 u104 u105 u106 u107 u108 u109 u110 u111 u112 u113 u114 u115 u116 u117 u118 u119 u120 u121 u122 u123 u124 u125 u126 u127 u128 u129 u130 u131 u132 u133 u134 u135 u136 u137 u138 u139 u140 u141 u142 u143 u144 u145 u146 u147 u148 u149 u150 u151 u152 u153 u154 u155 u156 u157 u158 u159 u160 u161 u162 u163 u164 u165 u166 u167 u168 u169 u170 u171 u172 u173 u174 u175 u176 u177 u178 u179 u180 u181 u182 u183 u184 u185 u186 : Value) (W0 V : World) (A3 : Option Addr) (k3 i x y bl : Nat) (l : List Nd) (q0 q1 q2 q3 : Int) (hll2 : l.length ≤ 1000) (hx256 : x < 256) (hy : y < 256) (hyl : 97 ≤ y) (hby : Hid ((97 + (x : Int) / 8 % 3) = (y : Int))) (hlen : Hid (l.length ≤ k3)) (hM3 : Hid (MkAt W0 V (.slice A3 l.length k3) l)) (hL3 : Hid (Blk V bl 28 #[.int .i64 0, .int .u64 q0, .int .u64 q1, .int .u64 q2, .int .u64 q3, .int .i64 0, .int .i64 0, .slice none 0 0])) (hq : Hid (U64 q0 ∧ U64 q1 ∧ U64 q2 ∧ U64 q3)) (Q : Exit → Act → World → Prop) (hP : ∀ ch (a : Act) N v w', Q (.panic ch) (a.put N v) w' → Q (.panic ch) a w') (hQ : ∀ a' w', EndS c0 c1 c2 c187 c188 c189 c190 c191 c192 c193 c194 W0 i l.length a' w' → Q .normal a' w')  :
    Code.wp Try.prog mkS4 Q ⟨#[c0, c1, c2, .slice A3 l.length k3, .int .i64 i, .int .i64 x, .int .i64 l.length, .pointer (some ⟨bl, 0, none⟩), u8, u9, u10, u11, u12, u13, u14, u15, u16, u17, u18, u19, u20, u21, u22, u23, u24, u25, u26, u27, u28, u29, u30, u31, u32, u33, u34, u35, u36, u37, u38, u39, u40, u41, u42, u43, u44, u45, u46, u47, u48, u49, u50, u51, u52, u53, u54, u55, u56, u57, u58, u59, u60, u61, u62, u63, u64, u65, u66, u67, u68, u69, u70, u71, u72, u73, u74, u75, u76, u77, u78, u79, u80, u81, u82, u83, u84, u85, u86, u87, u88, u89, u90, u91, u92, u93, u94, u95, u96, u97, u98, u99, u100, u101, u102, u103, u104, u105, u106, u107, u108, u109, u110, u111, u112, u113, u114, u115, u116, u117, u118, u119, u120, u121, u122, u123, u124, u125, u126, u127, u128, u129, u130, u131, u132, u133, u134, u135, u136, u137, u138, u139, u140, u141, u142, u143, u144, u145, u146, u147, u148, u149, u150, u151, u152, u153, u154, u155, u156, u157, u158, u159, u160, u161, u162, u163, u164, u165, u166, u167, u168, u169, u170, u171, u172, u173, u174, u175, u176, u177, u178, u179, u180, u181, u182, u183, u184, u185, u186, c187, c188, c189, c190, c191, c192, c193, c194], []⟩ V := by
  conv => arg 2; whnf
  by_cases h8 : (x : Int) % 8 = 7
  · by_cases hn : 1 ≤ l.length
    · have hn1 : 0 < l.length := by omega
      have hn2 : decide (0 < l.length) = true := decide_eq_true hn1
      have hn3 : decide ((0 : Int) < (l.length : Int)) = true := decide_eq_true (by omega)
      go_upto_if 154 with (fail)
      refine wp_cond_true (by show Value.bool _ = _; first | rfl | (simp only [hn2, hn3]; done) | simp [hn2, hn3]) ?_
      exact mkT7 _ _ _ _ _ _ _ _ _ _ _ _ _ _ _ _ _ _ _ _ _ _ _ _ _ _ _ _ _ _ _ _ _ _ _ _ _ _ _ _ _ _ _ _ _ _ _ _ _ _ _ _ _ _ _ _ _ _ _ _ _ _ _ _ _ _ _ _ _ _ _ _ _ _ _ _ _ _ _ _ _ _ _ _ _ _ _ _ _ _ _ _ _ _ _ _ _ _ _ _ _ _ _ _ _ _ _ _ _ _ _ _ _ _ _ _ _ _ _ _ _ _ _ _ _ _ _ _ _ _ _ _ _ _ _ _ _ _ _ _ _ _ _ _ _ _ _ _ _ _ _ _ _ _ _ _ _ _ _ _ _ _ _ _ _ _ _ _ _ _ _ _ _ _ _ _ _ _ _ _ _ _ _ _ _ _ _ _ _ _ W0 V A3 k3 i x y bl l q0 q1 q2 q3 hll2 hx256 hy hyl hby hlen hM3 hL3 hq Q hP hQ h8 hn
    · have hn1 : ¬ 0 < l.length := by omega
      have hn2 : decide (0 < l.length) = false := decide_eq_false hn1
      have hn3 : decide ((0 : Int) < (l.length : Int)) = false := decide_eq_false (by omega)
      go_upto_if 154 with (fail)
      refine wp_cond_false (by show Value.bool _ = _; first | rfl | (simp only [hn2, hn3]; done) | simp [hn2, hn3]) ?_
      exact mkE5 _ _ _ _ _ _ _ _ _ _ _ _ _ _ _ _ _ _ _ _ _ _ _ _ _ _ _ _ _ _ _ _ _ _ _ _ _ _ _ _ _ _ _ _ _ _ _ _ _ _ _ _ _ _ _ _ _ _ _ _ _ _ _ _ _ _ _ _ _ _ _ _ _ _ _ _ _ _ _ _ _ _ _ _ _ _ _ _ _ _ _ _ _ _ _ _ _ _ _ _ _ _ _ _ _ _ _ _ _ _ _ _ _ _ _ _ _ _ _ _ _ _ _ _ _ _ _ _ _ _ _ _ _ _ _ _ _ _ _ _ _ _ _ _ _ _ _ _ _ _ _ _ _ _ _ _ _ _ _ _ _ _ _ _ _ _ _ _ _ _ _ _ _ _ _ _ _ _ _ _ _ _ _ _ _ _ _ _ _ _ W0 V A3 k3 i x y bl l q0 q1 q2 q3 hll2 hx256 hy hyl hby hlen hM3 hL3 hq Q hP hQ
  · have h9 : decide ((x : Int) % 8 = 7) = false := decide_eq_false h8
    go_upto_if 154 with (fail)
    refine wp_cond_false (by show Value.bool _ = _; first | rfl | (simp only [h8, h9]; done) | simp [h8, h9]) ?_
    exact mkE5 _ _ _ _ _ _ _ _ _ _ _ _ _ _ _ _ _ _ _ _ _ _ _ _ _ _ _ _ _ _ _ _ _ _ _ _ _ _ _ _ _ _ _ _ _ _ _ _ _ _ _ _ _ _ _ _ _ _ _ _ _ _ _ _ _ _ _ _ _ _ _ _ _ _ _ _ _ _ _ _ _ _ _ _ _ _ _ _ _ _ _ _ _ _ _ _ _ _ _ _ _ _ _ _ _ _ _ _ _ _ _ _ _ _ _ _ _ _ _ _ _ _ _ _ _ _ _ _ _ _ _ _ _ _ _ _ _ _ _ _ _ _ _ _ _ _ _ _ _ _ _ _ _ _ _ _ _ _ _ _ _ _ _ _ _ _ _ _ _ _ _ _ _ _ _ _ _ _ _ _ _ _ _ _ _ _ _ _ _ _ W0 V A3 k3 i x y bl l q0 q1 q2 q3 hll2 hx256 hy hyl hby hlen hM3 hL3 hq Q hP hQ
set_option maxRecDepth 20000 in
set_option maxHeartbeats 4000000 in
theorem mkE3 (c0 c1 c2 c187 c188 c189 c190 c191 c192 c193 c194 : Value) (u8 u9 u10 u11 u12 u13 u14 u15 u16 u17 u18 u19 u20 u21 u22 u23 u24 u25 u26 u27 u28 u29 u30 u31 u32 u33 u34 u35 u36 u37 u38 u39 u40 u41 u42 u43 u44 u45 u46 u47 u48 u49 u50 u51 u52 u53 u54 u55 u56 u57 u58 u59 u60 u61 u62 u63 u64 u65 u66 u67 u68 u69 u70 u71 u72 u73 u74 u75 u76 u77 u78 u79 u80 u81 u82 u83 u84 u85 u86 u87 u88 u89 u90 u91 u92 u93 u94 u95 u96 u97 u98 u99 u100 u101 u102 u103 u104 u105 u106 u107 u108 u109 u110 u111 u112 u113 u114 u115 u116 u117 u118 u119 u120 u121 u122 u123 u124 u125 u126 u127 u128 u129 u130 u131 u132 u133 u134 u135 u136 u137 u138 u139 u140 u141 u142 u143 u144 u145 u146 u147 u148 u149 u150 u151 u152 u153 u154 u155 u156 u157 u158 u159 u160 u161 u162 u163 u164 u165 u166 u167 u168 u169 u170 u171 u172 u173 u174 u175 u176 u177 u178 u179 u180 u181 u182 u183 u184 u185 u186 : Value) (W0 V : World) (A3 : Option Addr) (k3 i x y bl : Nat) (l : List Nd) (q0 q1 q2 q3 : Int) (hll2 : l.length ≤ 1000) (hx256 : x < 256) (hy : y < 256) (hyl : 97 ≤ y) (hby : Hid ((97 + (x : Int) / 8 % 3) = (y : Int))) (hlen : Hid (l.length ≤ k3)) (hM3 : Hid (MkAt W0 V (.slice A3 l.length k3) l)) (hL3 : Hid (Blk V bl 28 #[.int .i64 0, .int .u64 q0, .int .u64 q1, .int .u64 q2, .int .u64 q3, .int .i64 0, .int .i64 0, .slice none 0 0])) (hq : Hid (U64 q0 ∧ U64 q1 ∧ U64 q2 ∧ U64 q3)) (Q : Exit → Act → World → Prop) (hP : ∀ ch (a : Act) N v w', Q (.panic ch) (a.put N v) w' → Q (.panic ch) a w') (hQ : ∀ a' w', EndS c0 c1 c2 c187 c188 c189 c190 c191 c192 c193 c194 W0 i l.length a' w' → Q .normal a' w')  :
    Code.wp Try.prog mkS3 Q ⟨#[c0, c1, c2, .slice A3 l.length k3, .int .i64 i, .int .i64 x, .int .i64 l.length, .pointer (some ⟨bl, 0, none⟩), u8, u9, u10, u11, u12, u13, u14, u15, u16, u17, u18, u19, u20, u21, u22, u23, u24, u25, u26, u27, u28, u29, u30, u31, u32, u33, u34, u35, u36, u37, u38, u39, u40, u41, u42, u43, u44, u45, u46, u47, u48, u49, u50, u51, u52, u53, u54, u55, u56, u57, u58, u59, u60, u61, u62, u63, u64, u65, u66, u67, u68, u69, u70, u71, u72, u73, u74, u75, u76, u77, u78, u79, u80, u81, u82, u83, u84, u85, u86, u87, u88, u89, u90, u91, u92, u93, u94, u95, u96, u97, u98, u99, u100, u101, u102, u103, u104, u105, u106, u107, u108, u109, u110, u111, u112, u113, u114, u115, u116, u117, u118, u119, u120, u121, u122, u123, u124, u125, u126, u127, u128, u129, u130, u131, u132, u133, u134, u135, u136, u137, u138, u139, u140, u141, u142, u143, u144, u145, u146, u147, u148, u149, u150, u151, u152, u153, u154, u155, u156, u157, u158, u159, u160, u161, u162, u163, u164, u165, u166, u167, u168, u169, u170, u171, u172, u173, u174, u175, u176, u177, u178, u179, u180, u181, u182, u183, u184, u185, u186, c187, c188, c189, c190, c191, c192, c193, c194], []⟩ V := by
  conv => arg 2; whnf
  by_cases h8 : (x : Int) % 8 = 6
  · by_cases hn : 2 ≤ l.length
    · have hn1 : 1 < l.length := by omega
      have hn2 : decide (1 < l.length) = true := decide_eq_true hn1
      have hn3 : decide ((1 : Int) < (l.length : Int)) = true := decide_eq_true (by omega)
      go_upto_if 125 with (fail)
      refine wp_cond_true (by show Value.bool _ = _; first | rfl | (simp only [hn2, hn3]; done) | simp [hn2, hn3]) ?_
      exact mkT6 _ _ _ _ _ _ _ _ _ _ _ _ _ _ _ _ _ _ _ _ _ _ _ _ _ _ _ _ _ _ _ _ _ _ _ _ _ _ _ _ _ _ _ _ _ _ _ _ _ _ _ _ _ _ _ _ _ _ _ _ _ _ _ _ _ _ _ _ _ _ _ _ _ _ _ _ _ _ _ _ _ _ _ _ _ _ _ _ _ _ _ _ _ _ _ _ _ _ _ _ _ _ _ _ _ _ _ _ _ _ _ _ _ _ _ _ _ _ _ _ _ _ _ _ _ _ _ _ _ _ _ _ _ _ _ _ _ _ _ _ _ _ _ _ _ _ _ _ _ _ _ _ _ _ _ _ _ _ _ _ _ _ _ _ _ _ _ _ _ _ _ _ _ _ _ _ _ _ _ _ _ _ _ _ _ _ _ _ _ _ W0 V A3 k3 i x y bl l q0 q1 q2 q3 hll2 hx256 hy hyl hby hlen hM3 hL3 hq Q hP hQ h8 hn
    · have hn1 : ¬ 1 < l.length := by omega
      have hn2 : decide (1 < l.length) = false := decide_eq_false hn1
      have hn3 : decide ((1 : Int) < (l.length : Int)) = false := decide_eq_false (by omega)
      go_upto_if 125 with (fail)
      refine wp_cond_false (by show Value.bool _ = _; first | rfl | (simp only [hn2, hn3]; done) | simp [hn2, hn3]) ?_
      exact mkE4 _ _ _ _ _ _ _ _ _ _ _ _ _ _ _ _ _ _ _ _ _ _ _ _ _ _ _ _ _ _ _ _ _ _ _ _ _ _ _ _ _ _ _ _ _ _ _ _ _ _ _ _ _ _ _ _ _ _ _ _ _ _ _ _ _ _ _ _ _ _ _ _ _ _ _ _ _ _ _ _ _ _ _ _ _ _ _ _ _ _ _ _ _ _ _ _ _ _ _ _ _ _ _ _ _ _ _ _ _ _ _ _ _ _ _ _ _ _ _ _ _ _ _ _ _ _ _ _ _ _ _ _ _ _ _ _ _ _ _ _ _ _ _ _ _ _ _ _ _ _ _ _ _ _ _ _ _ _ _ _ _ _ _ _ _ _ _ _ _ _ _ _ _ _ _ _ _ _ _ _ _ _ _ _ _ _ _ _ _ _ W0 V A3 k3 i x y bl l q0 q1 q2 q3 hll2 hx256 hy hyl hby hlen hM3 hL3 hq Q hP hQ
  · have h9 : decide ((x : Int) % 8 = 6) = false := decide_eq_false h8
    go_upto_if 125 with (fail)
    refine wp_cond_false (by show Value.bool _ = _; first | rfl | (simp only [h8, h9]; done) | simp [h8, h9]) ?_
    exact mkE4 _ _ _ _ _ _ _ _ _ _ _ _ _ _ _ _ _ _ _ _ _ _ _ _ _ _ _ _ _ _ _ _ _ _ _ _ _ _ _ _ _ _ _ _ _ _ _ _ _ _ _ _ _ _ _ _ _ _ _ _ _ _ _ _ _ _ _ _ _ _ _ _ _ _ _ _ _ _ _ _ _ _ _ _ _ _ _ _ _ _ _ _ _ _ _ _ _ _ _ _ _ _ _ _ _ _ _ _ _ _ _ _ _ _ _ _ _ _ _ _ _ _ _ _ _ _ _ _ _ _ _ _ _ _ _ _ _ _ _ _ _ _ _ _ _ _ _ _ _ _ _ _ _ _ _ _ _ _ _ _ _ _ _ _ _ _ _ _ _ _ _ _ _ _ _ _ _ _ _ _ _ _ _ _ _ _ _ _ _ _ W0 V A3 k3 i x y bl l q0 q1 q2 q3 hll2 hx256 hy hyl hby hlen hM3 hL3 hq Q hP hQ
set_option maxRecDepth 20000 in
set_option maxHeartbeats 4000000 in
theorem mkE2 (c0 c1 c2 c187 c188 c189 c190 c191 c192 c193 c194 : Value) (u8 u9 u10 u11 u12 u13 u14 u15 u16 u17 u18 u19 u20 u21 u22 u23 u24 u25 u26 u27 u28 u29 u30 u31 u32 u33 u34 u35 u36 u37 u38 u39 u40 u41 u42 u43 u44 u45 u46 u47 u48 u49 u50 u51 u52 u53 u54 u55 u56 u57 u58 u59 u60 u61 u62 u63 u64 u65 u66 u67 u68 u69 u70 u71 u72 u73 u74 u75 u76 u77 u78 u79 u80 u81 u82 u83 u84 u85 u86 u87 u88 u89 u90 u91 u92 u93 u94 u95 u96 u97 u98 u99 u100 u101 u102 u103 u104 u105 u106 u107 u108 u109 u110 u111 u112 u113 u114 u115 u116 u117 u118 u119 u120 u121 u122 u123 u124 u125 u126 u127 u128 u129 u130 u131 u132 u133 u134 u135 u136 u137 u138 u139 u140 u141 u142 u143 u144 u145 u146 u147 u148 u149 u150 u151 u152 u153 u154 u155 u156 u157 u158 u159 u160 u161 u162 u163 u164 u165 u166 u167 u168 u169 u170 u171 u172 u173 u174 u175 u176 u177 u178 u179 u180 u181 u182 u183 u184 u185 u186 : Value) (W0 V : World) (A3 : Option Addr) (k3 i x y bl : Nat) (l : List Nd) (q0 q1 q2 q3 : Int) (hll2 : l.length ≤ 1000) (hx256 : x < 256) (hy : y < 256) (hyl : 97 ≤ y) (hby : Hid ((97 + (x : Int) / 8 % 3) = (y : Int))) (hlen : Hid (l.length ≤ k3)) (hM3 : Hid (MkAt W0 V (.slice A3 l.length k3) l)) (hL3 : Hid (Blk V bl 28 #[.int .i64 0, .int .u64 q0, .int .u64 q1, .int .u64 q2, .int .u64 q3, .int .i64 0, .int .i64 0, .slice none 0 0])) (hq : Hid (U64 q0 ∧ U64 q1 ∧ U64 q2 ∧ U64 q3)) (Q : Exit → Act → World → Prop) (hP : ∀ ch (a : Act) N v w', Q (.panic ch) (a.put N v) w' → Q (.panic ch) a w') (hQ : ∀ a' w', EndS c0 c1 c2 c187 c188 c189 c190 c191 c192 c193 c194 W0 i l.length a' w' → Q .normal a' w')  :
    Code.wp Try.prog mkS2 Q ⟨#[c0, c1, c2, .slice A3 l.length k3, .int .i64 i, .int .i64 x, .int .i64 l.length, .pointer (some ⟨bl, 0, none⟩), u8, u9, u10, u11, u12, u13, u14, u15, u16, u17, u18, u19, u20, u21, u22, u23, u24, u25, u26, u27, u28, u29, u30, u31, u32, u33, u34, u35, u36, u37, u38, u39, u40, u41, u42, u43, u44, u45, u46, u47, u48, u49, u50, u51, u52, u53, u54, u55, u56, u57, u58, u59, u60, u61, u62, u63, u64, u65, u66, u67, u68, u69, u70, u71, u72, u73, u74, u75, u76, u77, u78, u79, u80, u81, u82, u83, u84, u85, u86, u87, u88, u89, u90, u91, u92, u93, u94, u95, u96, u97, u98, u99, u100, u101, u102, u103, u104, u105, u106, u107, u108, u109, u110, u111, u112, u113, u114, u115, u116, u117, u118, u119, u120, u121, u122, u123, u124, u125, u126, u127, u128, u129, u130, u131, u132, u133, u134, u135, u136, u137, u138, u139, u140, u141, u142, u143, u144, u145, u146, u147, u148, u149, u150, u151, u152, u153, u154, u155, u156, u157, u158, u159, u160, u161, u162, u163, u164, u165, u166, u167, u168, u169, u170, u171, u172, u173, u174, u175, u176, u177, u178, u179, u180, u181, u182, u183, u184, u185, u186, c187, c188, c189, c190, c191, c192, c193, c194], []⟩ V := by
  conv => arg 2; whnf
  by_cases h8 : (x : Int) % 8 = 5
  · by_cases hn : 1 ≤ l.length
    · have hn1 : 0 < l.length := by omega
      have hn2 : decide (0 < l.length) = true := decide_eq_true hn1
      have hn3 : decide ((0 : Int) < (l.length : Int)) = true := decide_eq_true (by omega)
      go_upto_if 95 with (fail)
      refine wp_cond_true (by show Value.bool _ = _; first | rfl | (simp only [hn2, hn3]; done) | simp [hn2, hn3]) ?_
      exact mkT5 _ _ _ _ _ _ _ _ _ _ _ _ _ _ _ _ _ _ _ _ _ _ _ _ _ _ _ _ _ _ _ _ _ _ _ _ _ _ _ _ _ _ _ _ _ _ _ _ _ _ _ _ _ _ _ _ _ _ _ _ _ _ _ _ _ _ _ _ _ _ _ _ _ _ _ _ _ _ _ _ _ _ _ _ _ _ _ _ _ _ _ _ _ _ _ _ _ _ _ _ _ _ _ _ _ _ _ _ _ _ _ _ _ _ _ _ _ _ _ _ _ _ _ _ _ _ _ _ _ _ _ _ _ _ _ _ _ _ _ _ _ _ _ _ _ _ _ _ _ _ _ _ _ _ _ _ _ _ _ _ _ _ _ _ _ _ _ _ _ _ _ _ _ _ _ _ _ _ _ _ _ _ _ _ _ _ _ _ _ _ W0 V A3 k3 i x y bl l q0 q1 q2 q3 hll2 hx256 hy hyl hby hlen hM3 hL3 hq Q hP hQ h8 hn
    · have hn1 : ¬ 0 < l.length := by omega
      have hn2 : decide (0 < l.length) = false := decide_eq_false hn1
      have hn3 : decide ((0 : Int) < (l.length : Int)) = false := decide_eq_false (by omega)
      go_upto_if 95 with (fail)
      refine wp_cond_false (by show Value.bool _ = _; first | rfl | (simp only [hn2, hn3]; done) | simp [hn2, hn3]) ?_
      exact mkE3 _ _ _ _ _ _ _ _ _ _ _ _ _ _ _ _ _ _ _ _ _ _ _ _ _ _ _ _ _ _ _ _ _ _ _ _ _ _ _ _ _ _ _ _ _ _ _ _ _ _ _ _ _ _ _ _ _ _ _ _ _ _ _ _ _ _ _ _ _ _ _ _ _ _ _ _ _ _ _ _ _ _ _ _ _ _ _ _ _ _ _ _ _ _ _ _ _ _ _ _ _ _ _ _ _ _ _ _ _ _ _ _ _ _ _ _ _ _ _ _ _ _ _ _ _ _ _ _ _ _ _ _ _ _ _ _ _ _ _ _ _ _ _ _ _ _ _ _ _ _ _ _ _ _ _ _ _ _ _ _ _ _ _ _ _ _ _ _ _ _ _ _ _ _ _ _ _ _ _ _ _ _ _ _ _ _ _ _ _ _ W0 V A3 k3 i x y bl l q0 q1 q2 q3 hll2 hx256 hy hyl hby hlen hM3 hL3 hq Q hP hQ
  · have h9 : decide ((x : Int) % 8 = 5) = false := decide_eq_false h8
    go_upto_if 95 with (fail)
    refine wp_cond_false (by show Value.bool _ = _; first | rfl | (simp only [h8, h9]; done) | simp [h8, h9]) ?_
    exact mkE3 _ _ _ _ _ _ _ _ _ _ _ _ _ _ _ _ _ _ _ _ _ _ _ _ _ _ _ _ _ _ _ _ _ _ _ _ _ _ _ _ _ _ _ _ _ _ _ _ _ _ _ _ _ _ _ _ _ _ _ _ _ _ _ _ _ _ _ _ _ _ _ _ _ _ _ _ _ _ _ _ _ _ _ _ _ _ _ _ _ _ _ _ _ _ _ _ _ _ _ _ _ _ _ _ _ _ _ _ _ _ _ _ _ _ _ _ _ _ _ _ _ _ _ _ _ _ _ _ _ _ _ _ _ _ _ _ _ _ _ _ _ _ _ _ _ _ _ _ _ _ _ _ _ _ _ _ _ _ _ _ _ _ _ _ _ _ _ _ _ _ _ _ _ _ _ _ _ _ _ _ _ _ _ _ _ _ _ _ _ _ W0 V A3 k3 i x y bl l q0 q1 q2 q3 hll2 hx256 hy hyl hby hlen hM3 hL3 hq Q hP hQ
set_option maxRecDepth 20000 in
set_option maxHeartbeats 4000000 in
theorem mkE1 (c0 c1 c2 c187 c188 c189 c190 c191 c192 c193 c194 : Value) (u8 u9 u10 u11 u12 u13 u14 u15 u16 u17 u18 u19 u20 u21 u22 u23 u24 u25 u26 u27 u28 u29 u30 u31 u32 u33 u34 u35 u36 u37 u38 u39 u40 u41 u42 u43 u44 u45 u46 u47 u48 u49 u50 u51 u52 u53 u54 u55 u56 u57 u58 u59 u60 u61 u62 u63 u64 u65 u66 u67 u68 u69 u70 u71 u72 u73 u74 u75 u76 u77 u78 u79 u80 u81 u82 u83 u84 u85 u86 u87 u88 u89 u90 u91 u92 u93 u94 u95 u96 u97 u98 u99 u100 u101 u102 u103 u104 u105 u106 u107 u108 u109 u110 u111 u112 u113 u114 u115 u116 u117 u118 u119 u120 u121 u122 u123 u124 u125 u126 u127 u128 u129 u130 u131 u132 u133 u134 u135 u136 u137 u138 u139 u140 u141 u142 u143 u144 u145 u146 u147 u148 u149 u150 u151 u152 u153 u154 u155 u156 u157 u158 u159 u160 u161 u162 u163 u164 u165 u166 u167 u168 u169 u170 u171 u172 u173 u174 u175 u176 u177 u178 u179 u180 u181 u182 u183 u184 u185 u186 : Value) (W0 V : World) (A3 : Option Addr) (k3 i x y bl : Nat) (l : List Nd) (q0 q1 q2 q3 : Int) (hll2 : l.length ≤ 1000) (hx256 : x < 256) (hy : y < 256) (hyl : 97 ≤ y) (hby : Hid ((97 + (x : Int) / 8 % 3) = (y : Int))) (hlen : Hid (l.length ≤ k3)) (hM3 : Hid (MkAt W0 V (.slice A3 l.length k3) l)) (hL3 : Hid (Blk V bl 28 #[.int .i64 0, .int .u64 q0, .int .u64 q1, .int .u64 q2, .int .u64 q3, .int .i64 0, .int .i64 0, .slice none 0 0])) (hq : Hid (U64 q0 ∧ U64 q1 ∧ U64 q2 ∧ U64 q3)) (Q : Exit → Act → World → Prop) (hP : ∀ ch (a : Act) N v w', Q (.panic ch) (a.put N v) w' → Q (.panic ch) a w') (hQ : ∀ a' w', EndS c0 c1 c2 c187 c188 c189 c190 c191 c192 c193 c194 W0 i l.length a' w' → Q .normal a' w')  :
    Code.wp Try.prog mkS1 Q ⟨#[c0, c1, c2, .slice A3 l.length k3, .int .i64 i, .int .i64 x, .int .i64 l.length, .pointer (some ⟨bl, 0, none⟩), u8, u9, u10, u11, u12, u13, u14, u15, u16, u17, u18, u19, u20, u21, u22, u23, u24, u25, u26, u27, u28, u29, u30, u31, u32, u33, u34, u35, u36, u37, u38, u39, u40, u41, u42, u43, u44, u45, u46, u47, u48, u49, u50, u51, u52, u53, u54, u55, u56, u57, u58, u59, u60, u61, u62, u63, u64, u65, u66, u67, u68, u69, u70, u71, u72, u73, u74, u75, u76, u77, u78, u79, u80, u81, u82, u83, u84, u85, u86, u87, u88, u89, u90, u91, u92, u93, u94, u95, u96, u97, u98, u99, u100, u101, u102, u103, u104, u105, u106, u107, u108, u109, u110, u111, u112, u113, u114, u115, u116, u117, u118, u119, u120, u121, u122, u123, u124, u125, u126, u127, u128, u129, u130, u131, u132, u133, u134, u135, u136, u137, u138, u139, u140, u141, u142, u143, u144, u145, u146, u147, u148, u149, u150, u151, u152, u153, u154, u155, u156, u157, u158, u159, u160, u161, u162, u163, u164, u165, u166, u167, u168, u169, u170, u171, u172, u173, u174, u175, u176, u177, u178, u179, u180, u181, u182, u183, u184, u185, u186, c187, c188, c189, c190, c191, c192, c193, c194], []⟩ V := by
  conv => arg 2; whnf
  by_cases h8 : (x : Int) % 8 = 4
  · by_cases hn : 2 ≤ l.length
    · have hn1 : 1 < l.length := by omega
      have hn2 : decide (1 < l.length) = true := decide_eq_true hn1
      have hn3 : decide ((1 : Int) < (l.length : Int)) = true := decide_eq_true (by omega)
      go_upto_if 66 with (fail)
      refine wp_cond_true (by show Value.bool _ = _; first | rfl | (simp only [hn2, hn3]; done) | simp [hn2, hn3]) ?_
      exact mkT4 _ _ _ _ _ _ _ _ _ _ _ _ _ _ _ _ _ _ _ _ _ _ _ _ _ _ _ _ _ _ _ _ _ _ _ _ _ _ _ _ _ _ _ _ _ _ _ _ _ _ _ _ _ _ _ _ _ _ _ _ _ _ _ _ _ _ _ _ _ _ _ _ _ _ _ _ _ _ _ _ _ _ _ _ _ _ _ _ _ _ _ _ _ _ _ _ _ _ _ _ _ _ _ _ _ _ _ _ _ _ _ _ _ _ _ _ _ _ _ _ _ _ _ _ _ _ _ _ _ _ _ _ _ _ _ _ _ _ _ _ _ _ _ _ _ _ _ _ _ _ _ _ _ _ _ _ _ _ _ _ _ _ _ _ _ _ _ _ _ _ _ _ _ _ _ _ _ _ _ _ _ _ _ _ _ _ _ _ _ _ W0 V A3 k3 i x y bl l q0 q1 q2 q3 hll2 hx256 hy hyl hby hlen hM3 hL3 hq Q hP hQ h8 hn
    · have hn1 : ¬ 1 < l.length := by omega
      have hn2 : decide (1 < l.length) = false := decide_eq_false hn1
      have hn3 : decide ((1 : Int) < (l.length : Int)) = false := decide_eq_false (by omega)
      go_upto_if 66 with (fail)
      refine wp_cond_false (by show Value.bool _ = _; first | rfl | (simp only [hn2, hn3]; done) | simp [hn2, hn3]) ?_
      exact mkE2 _ _ _ _ _ _ _ _ _ _ _ _ _ _ _ _ _ _ _ _ _ _ _ _ _ _ _ _ _ _ _ _ _ _ _ _ _ _ _ _ _ _ _ _ _ _ _ _ _ _ _ _ _ _ _ _ _ _ _ _ _ _ _ _ _ _ _ _ _ _ _ _ _ _ _ _ _ _ _ _ _ _ _ _ _ _ _ _ _ _ _ _ _ _ _ _ _ _ _ _ _ _ _ _ _ _ _ _ _ _ _ _ _ _ _ _ _ _ _ _ _ _ _ _ _ _ _ _ _ _ _ _ _ _ _ _ _ _ _ _ _ _ _ _ _ _ _ _ _ _ _ _ _ _ _ _ _ _ _ _ _ _ _ _ _ _ _ _ _ _ _ _ _ _ _ _ _ _ _ _ _ _ _ _ _ _ _ _ _ _ W0 V A3 k3 i x y bl l q0 q1 q2 q3 hll2 hx256 hy hyl hby hlen hM3 hL3 hq Q hP hQ
  · have h9 : decide ((x : Int) % 8 = 4) = false := decide_eq_false h8
    go_upto_if 66 with (fail)
    refine wp_cond_false (by show Value.bool _ = _; first | rfl | (simp only [h8, h9]; done) | simp [h8, h9]) ?_
    exact mkE2 _ _ _ _ _ _ _ _ _ _ _ _ _ _ _ _ _ _ _ _ _ _ _ _ _ _ _ _ _ _ _ _ _ _ _ _ _ _ _ _ _ _ _ _ _ _ _ _ _ _ _ _ _ _ _ _ _ _ _ _ _ _ _ _ _ _ _ _ _ _ _ _ _ _ _ _ _ _ _ _ _ _ _ _ _ _ _ _ _ _ _ _ _ _ _ _ _ _ _ _ _ _ _ _ _ _ _ _ _ _ _ _ _ _ _ _ _ _ _ _ _ _ _ _ _ _ _ _ _ _ _ _ _ _ _ _ _ _ _ _ _ _ _ _ _ _ _ _ _ _ _ _ _ _ _ _ _ _ _ _ _ _ _ _ _ _ _ _ _ _ _ _ _ _ _ _ _ _ _ _ _ _ _ _ _ _ _ _ _ _ W0 V A3 k3 i x y bl l q0 q1 q2 q3 hll2 hx256 hy hyl hby hlen hM3 hL3 hq Q hP hQ
set_option maxRecDepth 20000 in
set_option maxHeartbeats 4000000 in
theorem mkE0 (c0 c1 c2 c187 c188 c189 c190 c191 c192 c193 c194 : Value) (u8 u9 u10 u11 u12 u13 u14 u15 u16 u17 u18 u19 u20 u21 u22 u23 u24 u25 u26 u27 u28 u29 u30 u31 u32 u33 u34 u35 u36 u37 u38 u39 u40 u41 u42 u43 u44 u45 u46 u47 u48 u49 u50 u51 u52 u53 u54 u55 u56 u57 u58 u59 u60 u61 u62 u63 u64 u65 u66 u67 u68 u69 u70 u71 u72 u73 u74 u75 u76 u77 u78 u79 u80 u81 u82 u83 u84 u85 u86 u87 u88 u89 u90 u91 u92 u93 u94 u95 u96 u97 u98 u99 u100 u101 u102 u103 u104 u105 u106 u107 u108 u109 u110 u111 u112 u113 u114 u115 u116 u117 u118 u119 u120 u121 u122 u123 u124 u125 u126 u127 u128 u129 u130 u131 u132 u133 u134 u135 u136 u137 u138 u139 u140 u141 u142 u143 u144 u145 u146 u147 u148 u149 u150 u151 u152 u153 u154 u155 u156 u157 u158 u159 u160 u161 u162 u163 u164 u165 u166 u167 u168 u169 u170 u171 u172 u173 u174 u175 u176 u177 u178 u179 u180 u181 u182 u183 u184 u185 u186 : Value) (W0 V : World) (A3 : Option Addr) (k3 i x y bl : Nat) (l : List Nd) (q0 q1 q2 q3 : Int) (hll2 : l.length ≤ 1000) (hx256 : x < 256) (hy : y < 256) (hyl : 97 ≤ y) (hby : Hid ((97 + (x : Int) / 8 % 3) = (y : Int))) (hlen : Hid (l.length ≤ k3)) (hM3 : Hid (MkAt W0 V (.slice A3 l.length k3) l)) (hL3 : Hid (Blk V bl 28 #[.int .i64 0, .int .u64 q0, .int .u64 q1, .int .u64 q2, .int .u64 q3, .int .i64 0, .int .i64 0, .slice none 0 0])) (hq : Hid (U64 q0 ∧ U64 q1 ∧ U64 q2 ∧ U64 q3)) (Q : Exit → Act → World → Prop) (hP : ∀ ch (a : Act) N v w', Q (.panic ch) (a.put N v) w' → Q (.panic ch) a w') (hQ : ∀ a' w', EndS c0 c1 c2 c187 c188 c189 c190 c191 c192 c193 c194 W0 i l.length a' w' → Q .normal a' w')  :
    Code.wp Try.prog mkS0 Q ⟨#[c0, c1, c2, .slice A3 l.length k3, .int .i64 i, .int .i64 x, .int .i64 l.length, .pointer (some ⟨bl, 0, none⟩), u8, u9, u10, u11, u12, u13, u14, u15, u16, u17, u18, u19, u20, u21, u22, u23, u24, u25, u26, u27, u28, u29, u30, u31, u32, u33, u34, u35, u36, u37, u38, u39, u40, u41, u42, u43, u44, u45, u46, u47, u48, u49, u50, u51, u52, u53, u54, u55, u56, u57, u58, u59, u60, u61, u62, u63, u64, u65, u66, u67, u68, u69, u70, u71, u72, u73, u74, u75, u76, u77, u78, u79, u80, u81, u82, u83, u84, u85, u86, u87, u88, u89, u90, u91, u92, u93, u94, u95, u96, u97, u98, u99, u100, u101, u102, u103, u104, u105, u106, u107, u108, u109, u110, u111, u112, u113, u114, u115, u116, u117, u118, u119, u120, u121, u122, u123, u124, u125, u126, u127, u128, u129, u130, u131, u132, u133, u134, u135, u136, u137, u138, u139, u140, u141, u142, u143, u144, u145, u146, u147, u148, u149, u150, u151, u152, u153, u154, u155, u156, u157, u158, u159, u160, u161, u162, u163, u164, u165, u166, u167, u168, u169, u170, u171, u172, u173, u174, u175, u176, u177, u178, u179, u180, u181, u182, u183, u184, u185, u186, c187, c188, c189, c190, c191, c192, c193, c194], []⟩ V := by
  conv => arg 2; whnf
  by_cases h8 : (x : Int) % 8 = 3
  · by_cases hn : 2 ≤ l.length
    · have hn1 : 1 < l.length := by omega
      have hn2 : decide (1 < l.length) = true := decide_eq_true hn1
      have hn3 : decide ((1 : Int) < (l.length : Int)) = true := decide_eq_true (by omega)
      go_upto_if 37 with (fail)
      refine wp_cond_true (by show Value.bool _ = _; first | rfl | (simp only [hn2, hn3]; done) | simp [hn2, hn3]) ?_
      exact mkT3 _ _ _ _ _ _ _ _ _ _ _ _ _ _ _ _ _ _ _ _ _ _ _ _ _ _ _ _ _ _ _ _ _ _ _ _ _ _ _ _ _ _ _ _ _ _ _ _ _ _ _ _ _ _ _ _ _ _ _ _ _ _ _ _ _ _ _ _ _ _ _ _ _ _ _ _ _ _ _ _ _ _ _ _ _ _ _ _ _ _ _ _ _ _ _ _ _ _ _ _ _ _ _ _ _ _ _ _ _ _ _ _ _ _ _ _ _ _ _ _ _ _ _ _ _ _ _ _ _ _ _ _ _ _ _ _ _ _ _ _ _ _ _ _ _ _ _ _ _ _ _ _ _ _ _ _ _ _ _ _ _ _ _ _ _ _ _ _ _ _ _ _ _ _ _ _ _ _ _ _ _ _ _ _ _ _ _ _ _ _ W0 V A3 k3 i x y bl l q0 q1 q2 q3 hll2 hx256 hy hyl hby hlen hM3 hL3 hq Q hP hQ h8 hn
    · have hn1 : ¬ 1 < l.length := by omega
      have hn2 : decide (1 < l.length) = false := decide_eq_false hn1
      have hn3 : decide ((1 : Int) < (l.length : Int)) = false := decide_eq_false (by omega)
      go_upto_if 37 with (fail)
      refine wp_cond_false (by show Value.bool _ = _; first | rfl | (simp only [hn2, hn3]; done) | simp [hn2, hn3]) ?_
      exact mkE1 _ _ _ _ _ _ _ _ _ _ _ _ _ _ _ _ _ _ _ _ _ _ _ _ _ _ _ _ _ _ _ _ _ _ _ _ _ _ _ _ _ _ _ _ _ _ _ _ _ _ _ _ _ _ _ _ _ _ _ _ _ _ _ _ _ _ _ _ _ _ _ _ _ _ _ _ _ _ _ _ _ _ _ _ _ _ _ _ _ _ _ _ _ _ _ _ _ _ _ _ _ _ _ _ _ _ _ _ _ _ _ _ _ _ _ _ _ _ _ _ _ _ _ _ _ _ _ _ _ _ _ _ _ _ _ _ _ _ _ _ _ _ _ _ _ _ _ _ _ _ _ _ _ _ _ _ _ _ _ _ _ _ _ _ _ _ _ _ _ _ _ _ _ _ _ _ _ _ _ _ _ _ _ _ _ _ _ _ _ _ W0 V A3 k3 i x y bl l q0 q1 q2 q3 hll2 hx256 hy hyl hby hlen hM3 hL3 hq Q hP hQ
  · have h9 : decide ((x : Int) % 8 = 3) = false := decide_eq_false h8
    go_upto_if 37 with (fail)
    refine wp_cond_false (by show Value.bool _ = _; first | rfl | (simp only [h8, h9]; done) | simp [h8, h9]) ?_
    exact mkE1 _ _ _ _ _ _ _ _ _ _ _ _ _ _ _ _ _ _ _ _ _ _ _ _ _ _ _ _ _ _ _ _ _ _ _ _ _ _ _ _ _ _ _ _ _ _ _ _ _ _ _ _ _ _ _ _ _ _ _ _ _ _ _ _ _ _ _ _ _ _ _ _ _ _ _ _ _ _ _ _ _ _ _ _ _ _ _ _ _ _ _ _ _ _ _ _ _ _ _ _ _ _ _ _ _ _ _ _ _ _ _ _ _ _ _ _ _ _ _ _ _ _ _ _ _ _ _ _ _ _ _ _ _ _ _ _ _ _ _ _ _ _ _ _ _ _ _ _ _ _ _ _ _ _ _ _ _ _ _ _ _ _ _ _ _ _ _ _ _ _ _ _ _ _ _ _ _ _ _ _ _ _ _ _ _ _ _ _ _ _ W0 V A3 k3 i x y bl l q0 q1 q2 q3 hll2 hx256 hy hyl hby hlen hM3 hL3 hq Q hP hQ
end Go.Proofs.Ytimhiacjoplkeaa
