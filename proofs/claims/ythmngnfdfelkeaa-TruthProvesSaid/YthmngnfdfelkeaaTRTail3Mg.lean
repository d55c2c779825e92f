/-
  What is proved: the tail of (*judge).right: from the two boxes on.
-/
import Derived.Test.YthmngnfdfelkeaaTRTail2Mg
import Derived.OrdersHeld
namespace Go.Proofs.Ythmngnfdfelkeaa
open Go.RowKit
attribute [local go_sem ↓] max_int min_int

def regionOf (n : Nat) : Code → Code
  | .seq (.region i o d) b => if i = n then .region i o d else regionOf n b
  | .seq _ b => regionOf n b
  | c => c
noncomputable def reg13 : Code := regionOf 13 (Try.f105.body.getD .skip)
def ops13 : Code → Array Oper
  | .region _ o _ => o
  | _ => #[]

theorem wpOp_value {P : Program} {ops : Array Oper} {Q : Exit → Act → World → Prop} {i : Nat} {o : Oper} {K : Act → World → Prop} {a : Act} {w w' : World} {v : Value} (hi : ops[i]? = some o) (hw : Region.wanted o (yielded ops a.tmps) = true)
    (hr : (execOp a.eval o).run P w = .ok (.value v) w') (h : K (a.put o.dst v) w') : wpOp P ops Q i K a w := by
  unfold wpOp
  simp only [hi, hw, if_true, Oper.wp, hr, Oper.upon]
  exact .inl h
theorem wpOp_skip {P : Program} {ops : Array Oper} {Q : Exit → Act → World → Prop} {i : Nat} {o : Oper} {K : Act → World → Prop} {a : Act} {w w' : World} (hi : ops[i]? = some o) (hw : Region.wanted o (yielded ops a.tmps) = true)
    (hr : (execOp a.eval o).run P w = .ok .skip w') (h : K (a.put o.dst undef) w') : wpOp P ops Q i K a w := by
  unfold wpOp
  simp only [hi, hw, if_true, Oper.wp, hr, Oper.upon]
  exact .inl h

theorem setRow_far {w : World} {q g : Nat} {t : TypeId} {cs : Array Value} (h : Bk w q t cs) (hne : q ≠ g) {c2 : Array Value} : Bk (w.setRow g c2) q t cs := (setRow_other w g q c2 hne).trans h
theorem alloc103 (W : World) : (Instr.alloc 103 true (.tuple #[])).run Try.prog W = .ok (.pointer (some ⟨W.heap.size, 0, none⟩)) (W.alloc (.cells #[.int .i64 0, .int .i64 0, .int .i64 0, .int .i64 0, .int .i64 0, .int .i64 0, .int .i64 0, .int .i64 0, .int .i64 0, .int .i64 0, .int .i64 0, .int .i64 0, .int .i64 0, .int .i64 0, .int .i64 0, .int .i64 0] 103)) := by
  kernel_rfl
theorem exec_alloc103 (ev : Operand → Value) (o : Oper) (W : World) (n : Nat) (hn : W.heap.size = n) (ho : o.op = .alloc 103) : (execOp ev o).run Try.prog W = .ok (.value (.pointer (some ⟨n, 0, none⟩))) (W.alloc (.cells #[.int .i64 0, .int .i64 0, .int .i64 0, .int .i64 0, .int .i64 0, .int .i64 0, .int .i64 0, .int .i64 0, .int .i64 0, .int .i64 0, .int .i64 0, .int .i64 0, .int .i64 0, .int .i64 0, .int .i64 0, .int .i64 0] 103)) := by
  subst hn
  unfold execOp
  rw [ho]
  simp [alloc103]
theorem exec_load103 (ev : Operand → Value) (o : Oper) (W : World) (x : Operand) (ho : o.op = .load 103 x) (q4 : Nat) (lo hi : List Int) (h1 : lo.length = 8) (h2 : hi.length = 8) (he : ev x = .pointer (some ⟨q4, 0, none⟩)) (h : Bk W q4 103 (boxA lo hi)) : (execOp ev o).run Try.prog W = .ok (.value (.agg (boxA lo hi))) W := by
  unfold execOp
  rw [ho]
  simp [he]
  rw [boxA_load h1 h2 h]
  rfl
theorem exec_store103 (ev : Operand → Value) (o : Oper) (W : World) (x y : Operand) (ho : o.op = .store 103 x y) (q : Nat) (old : Array Value) (lo hi : List Int) (h1 : lo.length = 8) (h2 : hi.length = 8) (he : ev x = .pointer (some ⟨q, 0, none⟩)) (hy : ev y = .agg (boxA lo hi)) (h : Bk W q 103 old) (hold : old.size = 16) :
    (execOp ev o).run Try.prog W = .ok .skip (W.setRow q (boxA lo hi)) := by
  have hr := run_storeVar_row (P := Try.prog) W q 103 103 old (boxA lo hi) h (by rw [boxA_size h1 h2]; kernel_rfl) (by rw [boxA_size h1 h2]; exact hold) (boxA_one _ _)
  unfold execOp
  rw [ho]
  simp [he, hy, Instr.storeAt, Instr.sureAddr, hr]

set_option maxRecDepth 1000000 in
set_option maxHeartbeats 4000000 in
theorem reg13_any (lo hi : List Int) (h1 : lo.length = 8) (h2 : hi.length = 8) (J q4 q5 : Nat) (w7 : World) (B4 : Bk w7 q4 103 (boxA lo hi)) (Q : Exit → Act → World → Prop)
    (hQ : ∀ c a (d : Option Tmp) (v : Value) w, Q (.panic c) (a.put d v) w → Q (.panic c) a w) (c1 c2 c3 c6 c7 c8 c9 c10 c11 c12 c13 c14 c15 c16 c17 c18 c19 c20 c21 c22 c23 c24 c25 c26 c27 c28 c29 c30 c31 c32 c33 c34 c35 c36 c37 c38 c39 c40 c41 c42 c43 c44 c45 c46 c47 c48 c49 c50 c51 c52 c53 c54 c55 c56 c57 c58 c59 c60 c61 c62 c63 c64 c65 c66 c67 c68 c69 c70 c71 c72 c73 c74 c75 c76 c77 c78 c79 c80 c81 c82 c83 c84 c85 c86 c87 c88 c89 c90 c91 c92 c93 c94 c95 c96 c97 c98 c99 c100 c101 c102 c103 c104 c105 c106 c107 c108 c109 c110 c111 c112 c113 c114 c115 c116 c117 c118 c119 c120 c121 c122 c123 c124 c125 c126 c127 c128 c129 c130 c131 c132 c133 c134 c135 c136 : Value)
    (hn : ∀ (q7 q8 : Nat) (w8 : World), q7 ≠ q8 → w7.heap.size ≤ q7 → w7.heap.size ≤ q8 → Below w7.heap.size w7 w8 → Bk w8 q7 103 (boxA lo hi) → Bk w8 q8 103 (boxA lo hi) → ∀ c106 c107 : Value, Q .normal ⟨#[.pointer (some ⟨J, 0, none⟩), c1, c2, c3, .pointer (some ⟨q4, 0, none⟩), .pointer (some ⟨q5, 0, none⟩), c6, .pointer (some ⟨q7, 0, none⟩), .pointer (some ⟨q8, 0, none⟩), c9, c10, c11, c12, c13, c14, c15, c16, c17, c18, c19, c20, c21, c22, c23, c24, c25, c26, c27, c28, c29, c30, c31, c32, c33, c34, c35, c36, c37, c38, c39, c40, c41, c42, c43, c44, c45, c46, c47, c48, c49, c50, c51, c52, c53, c54, c55, c56, c57, c58, c59, c60, c61, c62, c63, c64, c65, c66, c67, c68, c69, c70, c71, c72, c73, c74, c75, c76, c77, c78, c79, c80, c81, c82, c83, c84, c85, c86, c87, c88, c89, c90, c91, c92, c93, c94, c95, c96, c97, c98, c99, c100, c101, c102, c103, c104, c105, c106, c107, c108, c109, c110, c111, c112, c113, c114, c115, c116, c117, c118, c119, c120, c121, c122, c123, c124, c125, c126, c127, c128, c129, c130, c131, c132, c133, c134, c135, c136], []⟩ w8) :
    Code.wp Try.prog reg13 Q ⟨#[.pointer (some ⟨J, 0, none⟩), c1, c2, c3, .pointer (some ⟨q4, 0, none⟩), .pointer (some ⟨q5, 0, none⟩), c6, c7, c8, c9, c10, c11, c12, c13, c14, c15, c16, c17, c18, c19, c20, c21, c22, c23, c24, c25, c26, c27, c28, c29, c30, c31, c32, c33, c34, c35, c36, c37, c38, c39, c40, c41, c42, c43, c44, c45, c46, c47, c48, c49, c50, c51, c52, c53, c54, c55, c56, c57, c58, c59, c60, c61, c62, c63, c64, c65, c66, c67, c68, c69, c70, c71, c72, c73, c74, c75, c76, c77, c78, c79, c80, c81, c82, c83, c84, c85, c86, c87, c88, c89, c90, c91, c92, c93, c94, c95, c96, c97, c98, c99, c100, c101, c102, c103, c104, c105, c106, c107, c108, c109, c110, c111, c112, c113, c114, c115, c116, c117, c118, c119, c120, c121, c122, c123, c124, c125, c126, c127, c128, c129, c130, c131, c132, c133, c134, c135, c136], []⟩ w7 := by
  conv => arg 2; whnf
  have hz : (#[Value.int .i64 0, .int .i64 0, .int .i64 0, .int .i64 0, .int .i64 0, .int .i64 0, .int .i64 0, .int .i64 0, .int .i64 0, .int .i64 0, .int .i64 0, .int .i64 0, .int .i64 0, .int .i64 0, .int .i64 0, .int .i64 0] : Array Value).size = 16 := rfl
  have hlt := B4.lt
  have A1 : Bk (w7.drew.alloc (.cells #[.int .i64 0, .int .i64 0, .int .i64 0, .int .i64 0, .int .i64 0, .int .i64 0, .int .i64 0, .int .i64 0, .int .i64 0, .int .i64 0, .int .i64 0, .int .i64 0, .int .i64 0, .int .i64 0, .int .i64 0, .int .i64 0] 103)) w7.heap.size 103 #[.int .i64 0, .int .i64 0, .int .i64 0, .int .i64 0, .int .i64 0, .int .i64 0, .int .i64 0, .int .i64 0, .int .i64 0, .int .i64 0, .int .i64 0, .int .i64 0, .int .i64 0, .int .i64 0, .int .i64 0, .int .i64 0] := bk_last rfl
  have A2 : Bk ((w7.drew.alloc (.cells #[.int .i64 0, .int .i64 0, .int .i64 0, .int .i64 0, .int .i64 0, .int .i64 0, .int .i64 0, .int .i64 0, .int .i64 0, .int .i64 0, .int .i64 0, .int .i64 0, .int .i64 0, .int .i64 0, .int .i64 0, .int .i64 0] 103)).alloc (.cells #[.int .i64 0, .int .i64 0, .int .i64 0, .int .i64 0, .int .i64 0, .int .i64 0, .int .i64 0, .int .i64 0, .int .i64 0, .int .i64 0, .int .i64 0, .int .i64 0, .int .i64 0, .int .i64 0, .int .i64 0, .int .i64 0] 103)) (w7.heap.size + 1) 103 #[.int .i64 0, .int .i64 0, .int .i64 0, .int .i64 0, .int .i64 0, .int .i64 0, .int .i64 0, .int .i64 0, .int .i64 0, .int .i64 0, .int .i64 0, .int .i64 0, .int .i64 0, .int .i64 0, .int .i64 0, .int .i64 0] := bk_last (by simp)
  have A3 := A1.alloc (.cells #[.int .i64 0, .int .i64 0, .int .i64 0, .int .i64 0, .int .i64 0, .int .i64 0, .int .i64 0, .int .i64 0, .int .i64 0, .int .i64 0, .int .i64 0, .int .i64 0, .int .i64 0, .int .i64 0, .int .i64 0, .int .i64 0] 103)
  have hb2 : Below w7.heap.size w7 ((w7.drew.alloc (.cells #[.int .i64 0, .int .i64 0, .int .i64 0, .int .i64 0, .int .i64 0, .int .i64 0, .int .i64 0, .int .i64 0, .int .i64 0, .int .i64 0, .int .i64 0, .int .i64 0, .int .i64 0, .int .i64 0, .int .i64 0, .int .i64 0] 103)).alloc (.cells #[.int .i64 0, .int .i64 0, .int .i64 0, .int .i64 0, .int .i64 0, .int .i64 0, .int .i64 0, .int .i64 0, .int .i64 0, .int .i64 0, .int .i64 0, .int .i64 0, .int .i64 0, .int .i64 0, .int .i64 0, .int .i64 0] 103)) := (((Below.refl _ _).drew).alloc (Nat.le_refl _) _).alloc (by simp) _
  have B4' : Bk w7.drew q4 103 (boxA lo hi) := B4
  refine wp_region_held (S := fun w' => Bk w' q4 103 (boxA lo hi)) (by kernel_rfl) ?_
  refine wpAnyH_take (i := 0) (v := .agg (boxA lo hi)) rfl (by kernel_rfl) (by kernel_rfl) (by kernel_rfl) (fun c a w => hQ c a _ _ w) (Or.inl ⟨by rfl, fun w hS => exec_load103 _ _ _ _ rfl q4 lo hi h1 h2 rfl hS⟩) B4' ?_
  refine wpAnyH_take (i := 1) (v := .agg (boxA lo hi)) rfl (by kernel_rfl) (by kernel_rfl) (by kernel_rfl) (fun c a w => hQ c a _ _ w) (Or.inl ⟨by rfl, fun w hS => exec_load103 _ _ _ _ rfl q4 lo hi h1 h2 rfl hS⟩) B4' ?_
  refine wpAnyH_all (rs := [2, 3]) (by kernel_rfl) (by simp) (fun i hi' => ?_)
  simp only [List.mem_cons, List.not_mem_nil, or_false] at hi'
  rcases hi' with rfl | rfl
  · refine wpOp_value rfl (by rfl) (exec_alloc103 _ _ _ w7.heap.size rfl rfl) ⟨B4'.alloc _, ?_⟩
    refine wpAnyH_all (rs := [3]) (by kernel_rfl) (by simp) (fun i hi' => ?_)
    obtain rfl : i = 3 := by simpa using hi'
    refine wpOp_value rfl (by rfl) (exec_alloc103 _ _ _ (w7.heap.size + 1) (by simp) rfl) ⟨(B4'.alloc _).alloc _, ?_⟩
    refine wpAnyH_all (rs := [4]) (by kernel_rfl) (by simp) (fun i hi' => ?_)
    obtain rfl : i = 4 := by simpa using hi'
    refine wpOp_skip rfl (by rfl) (exec_store103 _ _ _ _ _ rfl w7.heap.size _ lo hi h1 h2 rfl rfl A3 hz) ⟨setRow_far ((B4'.alloc _).alloc _) (by omega), ?_⟩
    refine wpAnyH_all (rs := [5]) (by kernel_rfl) (by simp) (fun i hi' => ?_)
    obtain rfl : i = 5 := by simpa using hi'
    refine wpOp_skip rfl (by rfl) (exec_store103 _ _ _ _ _ rfl (w7.heap.size + 1) _ lo hi h1 h2 rfl rfl (setRow_far A2 (by omega)) hz) ⟨setRow_far (setRow_far ((B4'.alloc _).alloc _) (by omega)) (by omega), ?_⟩
    refine wpAnyH_done (by kernel_rfl) ?_ _
    exact hn _ _ _ (by omega) (Nat.le_refl _) (by omega) (below_setRow (below_setRow hb2 (Nat.le_refl _) _) (by omega) _) (setRow_far (Bk_setRow A3 _) (by omega)) (Bk_setRow (setRow_far A2 (by omega)) _) _ _
  · refine wpOp_value rfl (by rfl) (exec_alloc103 _ _ _ w7.heap.size rfl rfl) ⟨B4'.alloc _, ?_⟩
    refine wpAnyH_all (rs := [2]) (by kernel_rfl) (by simp) (fun i hi' => ?_)
    obtain rfl : i = 2 := by simpa using hi'
    refine wpOp_value rfl (by rfl) (exec_alloc103 _ _ _ (w7.heap.size + 1) (by simp) rfl) ⟨(B4'.alloc _).alloc _, ?_⟩
    refine wpAnyH_all (rs := [4]) (by kernel_rfl) (by simp) (fun i hi' => ?_)
    obtain rfl : i = 4 := by simpa using hi'
    refine wpOp_skip rfl (by rfl) (exec_store103 _ _ _ _ _ rfl (w7.heap.size + 1) _ lo hi h1 h2 rfl rfl A2 hz) ⟨setRow_far ((B4'.alloc _).alloc _) (by omega), ?_⟩
    refine wpAnyH_all (rs := [5]) (by kernel_rfl) (by simp) (fun i hi' => ?_)
    obtain rfl : i = 5 := by simpa using hi'
    refine wpOp_skip rfl (by rfl) (exec_store103 _ _ _ _ _ rfl w7.heap.size _ lo hi h1 h2 rfl rfl (setRow_far A3 (by omega)) hz) ⟨setRow_far (setRow_far ((B4'.alloc _).alloc _) (by omega)) (by omega), ?_⟩
    refine wpAnyH_done (by kernel_rfl) ?_ _
    exact hn _ _ _ (by omega) (by omega) (Nat.le_refl _) (below_setRow (below_setRow hb2 (by omega) _) (Nat.le_refl _) _) (setRow_far (Bk_setRow A2 _) (by omega)) (Bk_setRow (setRow_far A3 (by omega)) _) _ _

set_option maxRecDepth 1000000 in
set_option maxHeartbeats 4000000 in
theorem right_tail13 (g J : Nat) (s : Stn) (sum : Int) (w0 : World) (n : Nat) (x y : Tr) (hx : RightAt g J s sum w0 n x) (hy : RightAt g J s sum w0 n y) (hJ0 : w0.heap.size ≤ J)
    (lo hi : List Int) (pn : Nat) (a L k wx wy : Int) (A : Option Addr) (c q4 q5 : Nat) (w w7 : World) (hp8 : pn < 8) (hab : 0 ≤ a ∧ a ≤ 255) (hbx : BoxIn s lo hi) (hup : BoxIn s lo (hi.set pn a)) (hdn : BoxIn s (lo.set pn (a + 1)) hi)
    (hr : RowNe w7 J A (kidCells [x, y])) (hxt : TrAt w7 J x) (hyt : TrAt w7 J y) (hB0 : Below w0.heap.size w0 w7) (hB : Below w.heap.size w w7) (hJ : Bk w7 J 142 (judgeA g sum L)) (hJw : J < w.heap.size)
    (B4 : Bk w7 q4 103 (boxA lo hi)) (B5 : Bk w7 q5 49 #[.int .i64 k, .int .i64 (pn : Int), .int .i64 a, .int .i64 wx, .int .i64 wy, .slice A 2 c]) (hq5w : w.heap.size ≤ q5)
    (hL0 : 0 ≤ L) (hL1 : L + (1 + sizeT x + sizeT y : Nat) ≤ 1000000000) (sz : Nat) (hszz : sz = 1 + sizeT x + sizeT y) (r : Option Nat)
    (hrr : r = match checkF s sum n x lo (hi.set pn a) with
      | none => none
      | some m => match checkF s sum n y (lo.set pn (a + 1)) hi with
        | none => none
        | some m' => some (m + m'))
    (c1 c2 c3 c6 c7 c8 c9 c10 c11 c12 c13 c14 c15 c16 c17 c18 c19 c20 c21 c22 c23 c24 c25 c26 c27 c28 c29 c30 c31 c32 c33 c34 c35 c36 c37 c38 c39 c40 c41 c42 c43 c44 c45 c46 c47 c48 c49 c50 c51 c52 c53 c54 c55 c56 c57 c58 c59 c60 c61 c62 c63 c64 c65 c66 c67 c68 c69 c70 c71 c72 c73 c74 c75 c76 c77 c78 c79 c80 c81 c82 c83 c84 c85 c86 c87 c88 c89 c90 c91 c92 c93 c94 c95 c96 c97 c98 c99 c100 c101 c102 c103 c104 c105 c106 c107 c108 c109 c110 c111 c112 c113 c114 c115 c116 c117 c118 c119 c120 c121 c122 c123 c124 c125 c126 c127 c128 c129 c130 c131 c132 c133 c134 c135 c136 : Value) (K : Act → World → Prop) (hK : ∀ a w', Code.wp Try.prog tail13 (bodyPost Try.prog Try.f105 (RightPost g J sum L r sz w)) a w' → K a w') :
    Code.wp Try.prog reg13 (Exit.then K (bodyPost Try.prog Try.f105 (RightPost g J sum L r sz w))) ⟨#[.pointer (some ⟨J, 0, none⟩), c1, c2, c3, .pointer (some ⟨q4, 0, none⟩), .pointer (some ⟨q5, 0, none⟩), c6, c7, c8, c9, c10, c11, c12, c13, c14, c15, c16, c17, c18, c19, c20, c21, c22, c23, c24, c25, c26, c27, c28, c29, c30, c31, c32, c33, c34, c35, c36, c37, c38, c39, c40, c41, c42, c43, c44, c45, c46, c47, c48, c49, c50, c51, c52, c53, c54, c55, c56, c57, c58, c59, c60, c61, c62, c63, c64, c65, c66, c67, c68, c69, c70, c71, c72, c73, c74, c75, c76, c77, c78, c79, c80, c81, c82, c83, c84, c85, c86, c87, c88, c89, c90, c91, c92, c93, c94, c95, c96, c97, c98, c99, c100, c101, c102, c103, c104, c105, c106, c107, c108, c109, c110, c111, c112, c113, c114, c115, c116, c117, c118, c119, c120, c121, c122, c123, c124, c125, c126, c127, c128, c129, c130, c131, c132, c133, c134, c135, c136], []⟩ w7 := by
  refine reg13_any lo hi hbx.1 hbx.2.1 J q4 q5 w7 B4 _ (fun _ _ d _ _ h => by cases d <;> exact h) c1 c2 c3 c6 c7 c8 c9 c10 c11 c12 c13 c14 c15 c16 c17 c18 c19 c20 c21 c22 c23 c24 c25 c26 c27 c28 c29 c30 c31 c32 c33 c34 c35 c36 c37 c38 c39 c40 c41 c42 c43 c44 c45 c46 c47 c48 c49 c50 c51 c52 c53 c54 c55 c56 c57 c58 c59 c60 c61 c62 c63 c64 c65 c66 c67 c68 c69 c70 c71 c72 c73 c74 c75 c76 c77 c78 c79 c80 c81 c82 c83 c84 c85 c86 c87 c88 c89 c90 c91 c92 c93 c94 c95 c96 c97 c98 c99 c100 c101 c102 c103 c104 c105 c106 c107 c108 c109 c110 c111 c112 c113 c114 c115 c116 c117 c118 c119 c120 c121 c122 c123 c124 c125 c126 c127 c128 c129 c130 c131 c132 c133 c134 c135 c136 ?_
  intro q7 q8 w8 h78 hq7 hq8 hb8 Ba Bb c106 c107
  exact hK _ _ (right_tail g J s sum w0 n x y hx hy hJ0 lo hi pn a L k wx wy A c q5 q7 q8 w w7 w8 hp8 hab hbx hup hdn hr hxt hyt hB0 hB hJ hJw hb8 B5 Ba Bb h78 hq7 hq8 hq5w hL0 hL1 sz hszz r hrr _ _ _ _ _ _ _ _ _ _ _ _ _ _ _ _ _ _ _ _ _ _ _ _ _ _ _ _ _ _ _ _ _ _ _ _ _ _ _ _ _ _ _ _ _ _ _ _ _ _ _ _ _ _ _ _ _ _ _ _ _ _ _ _ _ _ _ _ _ _ _ _ _ _ _ _ _ _ _ _ _ _ _ _ _ _ _ _ _ _ _ _ _ _ _ _ _ _ _ _ _ _ _ _ _ _ _ _ _ _ _ _ _ _ _ _ _ _ _ _ _ _ _ _ _ _ _ _ _ _ _ _ _)

end Go.Proofs.Ythmngnfdfelkeaa
