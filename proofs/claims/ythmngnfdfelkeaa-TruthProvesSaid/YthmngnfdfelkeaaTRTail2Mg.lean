/-
  What is proved: the tail of (*judge).right: from the two stores on.
-/
import Derived.Test.YthmngnfdfelkeaaTRTailMg
namespace Go.Proofs.Ythmngnfdfelkeaa
open Go.RowKit
attribute [local go_sem ↓] max_int min_int

theorem boxA_setlo {lo hi : List Int} (h1 : lo.length = 8) {i : Nat} (hi8 : i < 8) (x : Int) : (boxA lo hi).setIfInBounds i (.int .i64 x) = boxA (lo.set i x) hi := by
  apply Array.toList_inj.1
  simp only [boxA, intCells, Array.toList_setIfInBounds, List.map_append, List.map_set]
  rw [List.set_append_left _ _ (by simp; omega)]
theorem Bk.dr {w : World} {q : Nat} {t : TypeId} {cs : Array Value} (h : Bk w q t cs) : Bk w.drew q t cs := h

set_option maxRecDepth 1000000 in
set_option maxHeartbeats 16000000 in
theorem right_tail (g J : Nat) (s : Stn) (sum : Int) (w0 : World) (n : Nat) (x y : Tr) (hx : RightAt g J s sum w0 n x) (hy : RightAt g J s sum w0 n y) (hJ0 : w0.heap.size ≤ J)
    (lo hi : List Int) (pn : Nat) (a L k wx wy : Int) (A : Option Addr) (c q5 q7 q8 : Nat) (w w7 w8 : World) (hp8 : pn < 8) (hab : 0 ≤ a ∧ a ≤ 255) (hbx : BoxIn s lo hi) (hup : BoxIn s lo (hi.set pn a)) (hdn : BoxIn s (lo.set pn (a + 1)) hi)
    (hr : RowNe w7 J A (kidCells [x, y])) (hxt : TrAt w7 J x) (hyt : TrAt w7 J y) (hB0 : Below w0.heap.size w0 w7) (hB : Below w.heap.size w w7) (hJ : Bk w7 J 142 (judgeA g sum L)) (hJw : J < w.heap.size) (hB8 : Below w7.heap.size w7 w8)
    (B5 : Bk w7 q5 49 #[.int .i64 k, .int .i64 (pn : Int), .int .i64 a, .int .i64 wx, .int .i64 wy, .slice A 2 c]) (B7 : Bk w8 q7 103 (boxA lo hi)) (B8 : Bk w8 q8 103 (boxA lo hi)) (h78 : q7 ≠ q8) (h7 : w7.heap.size ≤ q7) (h8 : w7.heap.size ≤ q8) (h5 : w.heap.size ≤ q5)
    (hL0 : 0 ≤ L) (hL1 : L + (1 + sizeT x + sizeT y : Nat) ≤ 1000000000) (sz : Nat) (hszz : sz = 1 + sizeT x + sizeT y) (r : Option Nat)
    (hrr : r = match checkF s sum n x lo (hi.set pn a) with
      | none => none
      | some m => match checkF s sum n y (lo.set pn (a + 1)) hi with
        | none => none
        | some m' => some (m + m'))
    (c1 c2 c3 c4 c6 c9 c10 c11 c12 c13 c14 c15 c16 c17 c18 c19 c20 c21 c22 c23 c24 c25 c26 c27 c28 c29 c30 c31 c32 c33 c34 c35 c36 c37 c38 c39 c40 c41 c42 c43 c44 c45 c46 c47 c48 c49 c50 c51 c52 c53 c54 c55 c56 c57 c58 c59 c60 c61 c62 c63 c64 c65 c66 c67 c68 c69 c70 c71 c72 c73 c74 c75 c76 c77 c78 c79 c80 c81 c82 c83 c84 c85 c86 c87 c88 c89 c90 c91 c92 c93 c94 c95 c96 c97 c98 c99 c100 c101 c102 c103 c104 c105 c106 c107 c108 c109 c110 c111 c112 c113 c114 c115 c116 c117 c118 c119 c120 c121 c122 c123 c124 c125 c126 c127 c128 c129 c130 c131 c132 c133 c134 c135 c136 : Value) :
    Code.wp Try.prog tail13 (bodyPost Try.prog Try.f105 (RightPost g J sum L r sz w)) ⟨#[.pointer (some ⟨J, 0, none⟩), c1, c2, c3, c4, .pointer (some ⟨q5, 0, none⟩), c6, .pointer (some ⟨q7, 0, none⟩), .pointer (some ⟨q8, 0, none⟩), c9, c10, c11, c12, c13, c14, c15, c16, c17, c18, c19, c20, c21, c22, c23, c24, c25, c26, c27, c28, c29, c30, c31, c32, c33, c34, c35, c36, c37, c38, c39, c40, c41, c42, c43, c44, c45, c46, c47, c48, c49, c50, c51, c52, c53, c54, c55, c56, c57, c58, c59, c60, c61, c62, c63, c64, c65, c66, c67, c68, c69, c70, c71, c72, c73, c74, c75, c76, c77, c78, c79, c80, c81, c82, c83, c84, c85, c86, c87, c88, c89, c90, c91, c92, c93, c94, c95, c96, c97, c98, c99, c100, c101, c102, c103, c104, c105, c106, c107, c108, c109, c110, c111, c112, c113, c114, c115, c116, c117, c118, c119, c120, c121, c122, c123, c124, c125, c126, c127, c128, c129, c130, c131, c132, c133, c134, c135, c136], []⟩ w8 := by
  subst hszz
  have hq5 := B5.lt
  have hsz := hB.size
  have hW : Below w7.heap.size w7 ((w8.setCell ⟨q7, 8 + pn, none⟩ (.int .i64 a)).setCell ⟨q8, pn, none⟩ (.int .i64 (a + 1))).drew := ((hB8.setCell (p := ⟨q7, 8 + pn, none⟩) h7 (.int .i64 a)).setCell (p := ⟨q8, pn, none⟩) h8 (.int .i64 (a + 1))).drew
  have B7W : Bk ((w8.setCell ⟨q7, 8 + pn, none⟩ (.int .i64 a)).setCell ⟨q8, pn, none⟩ (.int .i64 (a + 1))).drew q7 103 (boxA lo (hi.set pn a)) := by
    have h := ((B7.put (8 + pn) (.int .i64 a)).far (p := ⟨q8, pn, none⟩) (by simpa using h78) (.int .i64 (a + 1))).dr
    rw [boxA_set hbx.1] at h
    exact h
  have B8W : Bk ((w8.setCell ⟨q7, 8 + pn, none⟩ (.int .i64 a)).setCell ⟨q8, pn, none⟩ (.int .i64 (a + 1))).drew q8 103 (boxA (lo.set pn (a + 1)) hi) := by
    have h := ((B8.far (p := ⟨q7, 8 + pn, none⟩) (by simpa using h78.symm) (.int .i64 a)).put pn (.int .i64 (a + 1))).dr
    rw [boxA_setlo hbx.1 hp8] at h
    exact h
  have HREST : Hid (∀ c1 c2 c3 c4 c6 c9 c10 c11 c12 c13 c14 c15 c16 c17 c18 c19 c20 c21 c22 c23 c24 c25 c26 c27 c28 c29 c30 c31 c32 c33 c34 c35 c36 c37 c38 c39 c40 c41 c42 c43 c44 c45 c46 c47 c48 c49 c50 c51 c52 c53 c54 c55 c56 c57 c58 c59 c60 c61 c62 c63 c64 c65 c66 c67 c68 c69 c70 c71 c72 c73 c74 c75 c76 c77 c78 c79 c80 c81 c82 c83 c84 c85 c86 c87 c88 c89 c90 c91 c92 c93 c94 c95 c96 c97 c98 c99 c100 c101 c102 c103 c104 c105 c106 c107 c108 c109 c110 c111 c112 c113 c114 c115 c116 c117 c118 c119 c120 c121 c122 c123 c124 c125 c126 c127 c128 c129 c130 c131 c132 c133 c134 c135 c136 : Value, Code.wp Try.prog tail14 (bodyPost Try.prog Try.f105 (RightPost g J sum L r (1 + sizeT x + sizeT y) w)) ⟨#[.pointer (some ⟨J, 0, none⟩), c1, c2, c3, c4, .pointer (some ⟨q5, 0, none⟩), c6, .pointer (some ⟨q7, 0, none⟩), .pointer (some ⟨q8, 0, none⟩), c9, c10, c11, c12, c13, c14, c15, c16, c17, c18, c19, c20, c21, c22, c23, c24, c25, c26, c27, c28, c29, c30, c31, c32, c33, c34, c35, c36, c37, c38, c39, c40, c41, c42, c43, c44, c45, c46, c47, c48, c49, c50, c51, c52, c53, c54, c55, c56, c57, c58, c59, c60, c61, c62, c63, c64, c65, c66, c67, c68, c69, c70, c71, c72, c73, c74, c75, c76, c77, c78, c79, c80, c81, c82, c83, c84, c85, c86, c87, c88, c89, c90, c91, c92, c93, c94, c95, c96, c97, c98, c99, c100, c101, c102, c103, c104, c105, c106, c107, c108, c109, c110, c111, c112, c113, c114, c115, c116, c117, c118, c119, c120, c121, c122, c123, c124, c125, c126, c127, c128, c129, c130, c131, c132, c133, c134, c135, c136], []⟩ ((w8.setCell ⟨q7, 8 + pn, none⟩ (.int .i64 a)).setCell ⟨q8, pn, none⟩ (.int .i64 (a + 1))).drew) := fun c1 c2 c3 c4 c6 c9 c10 c11 c12 c13 c14 c15 c16 c17 c18 c19 c20 c21 c22 c23 c24 c25 c26 c27 c28 c29 c30 c31 c32 c33 c34 c35 c36 c37 c38 c39 c40 c41 c42 c43 c44 c45 c46 c47 c48 c49 c50 c51 c52 c53 c54 c55 c56 c57 c58 c59 c60 c61 c62 c63 c64 c65 c66 c67 c68 c69 c70 c71 c72 c73 c74 c75 c76 c77 c78 c79 c80 c81 c82 c83 c84 c85 c86 c87 c88 c89 c90 c91 c92 c93 c94 c95 c96 c97 c98 c99 c100 c101 c102 c103 c104 c105 c106 c107 c108 c109 c110 c111 c112 c113 c114 c115 c116 c117 c118 c119 c120 c121 c122 c123 c124 c125 c126 c127 c128 c129 c130 c131 c132 c133 c134 c135 c136 =>
    right_tail15 g J s sum w0 n x y hx hy hJ0 lo hi (lo.set pn (a + 1)) (hi.set pn a) pn a L k wx wy A c q5 q7 q8 w _ hup hdn (hr.below hW) (hxt.keep hW) (hyt.keep hW) (hB0.trans (hW.mono hB0.size)) (hB.trans (hW.mono hsz)) (hJ.keep hW) (B5.keep hW) B7W B8W (by omega) (by omega) (by omega) hL0 hL1 r hrr c1 c2 c3 c4 c6 c9 c10 c11 c12 c13 c14 c15 c16 c17 c18 c19 c20 c21 c22 c23 c24 c25 c26 c27 c28 c29 c30 c31 c32 c33 c34 c35 c36 c37 c38 c39 c40 c41 c42 c43 c44 c45 c46 c47 c48 c49 c50 c51 c52 c53 c54 c55 c56 c57 c58 c59 c60 c61 c62 c63 c64 c65 c66 c67 c68 c69 c70 c71 c72 c73 c74 c75 c76 c77 c78 c79 c80 c81 c82 c83 c84 c85 c86 c87 c88 c89 c90 c91 c92 c93 c94 c95 c96 c97 c98 c99 c100 c101 c102 c103 c104 c105 c106 c107 c108 c109 c110 c111 c112 c113 c114 c115 c116 c117 c118 c119 c120 c121 c122 c123 c124 c125 c126 c127 c128 c129 c130 c131 c132 c133 c134 c135 c136
  replace B5 := B5.keep hB8
  conv => arg 2; whnf
  have t1 := B5.cell 1
  have t2 := B5.cell 2
  simp at t1 t2
  have z0 := B7.cell (8 + pn)
  rw [boxA_hi hbx.1 hbx.2.1 hp8] at z0
  have z1 := B8.cell pn
  rw [boxA_lo hbx.1 hp8] at z1
  have f0 := B7.fz (8 + pn)
  have f1 := B8.fz pn
  have hq5 := B5.lt
  have hq7 := B7.lt
  have hq8 := B8.lt
  have h57 : q5 ≠ q7 := by omega
  have h58 : q5 ≠ q8 := by omega
  have hp8I : (pn : Int) < 8 := by omega
  have hw := IntWalk.i64_in (a + 1) (by omega)
  clear hW B7W B8W hx hy hJ0 hbx hup hdn hr hxt hyt hB0 hB hJ hB8 B5 B7 B8 hL0 hL1 hrr hsz
  go_upto_region 14 with fail
  rename_i K hK
  go_region
  all_goals
    refine hK _ _ ?_
    exact HREST.out _ _ _ _ _ _ _ _ _ _ _ _ _ _ _ _ _ _ _ _ _ _ _ _ _ _ _ _ _ _ _ _ _ _ _ _ _ _ _ _ _ _ _ _ _ _ _ _ _ _ _ _ _ _ _ _ _ _ _ _ _ _ _ _ _ _ _ _ _ _ _ _ _ _ _ _ _ _ _ _ _ _ _ _ _ _ _ _ _ _ _ _ _ _ _ _ _ _ _ _ _ _ _ _ _ _ _ _ _ _ _ _ _ _ _ _ _ _ _ _ _ _ _ _ _ _ _ _ _ _ _ _ _

end Go.Proofs.Ythmngnfdfelkeaa
