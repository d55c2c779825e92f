/-
  What is proved: the tail of (*judge).right: from the two stores on.
-/
import Derived.Test.YthmngnfdfelkeaaMg36
import Derived.BigRegion
namespace Go.Proofs.Ythmngnfdfelkeaa
open Go.RowKit
attribute [local go_sem ↓] max_int min_int

def restOf (n : Nat) : Code → Code
  | .seq (.region i _ _) b => if i = n then b else restOf n b
  | .seq _ b => restOf n b
  | c => c
noncomputable def tail13 : Code := restOf 13 (Try.f105.body.getD .skip)
noncomputable def tail14 : Code := restOf 14 (Try.f105.body.getD .skip)

/-- What the induction hands on. -/
def RightAt (g J : Nat) (s : Stn) (sum : Int) (w0 : World) (n : Nat) (t : Tr) : Prop :=
  ∀ (lo hi : List Int) (L : Int) (w : World), BoxIn s lo hi → TrAt w J t → Below w0.heap.size w0 w → Bk w J 142 (judgeA g sum L) → 0 ≤ L → L + sizeT t ≤ 1000000000 →
    Calls Try.prog 105 #[.pointer (some ⟨J, 0, none⟩), .agg (boxA lo hi), t.val] w (RightPost g J sum L (checkF s sum n t lo hi) (sizeT t) w)

theorem grow_trans {w1 w2 w3 : World} {r : Option Nat} (h : w1.grownBy w2 r) (k : w2.grownBy w3 r) : w1.grownBy w3 r :=
  ⟨k.os.trans h.os, k.tape.trans h.tape, k.output.trans h.output, Nat.le_trans h.size k.size, fun b hb hne => (k.block b (Nat.lt_of_lt_of_le hb h.size) hne).trans (h.block b hb hne)⟩
theorem grow_below {w1 w2 : World} {r : Option Nat} (h : Below w1.heap.size w1 w2) : w1.grownBy w2 r := ⟨h.os, h.tape, h.output, h.size, fun k hk _ => h.block k hk⟩
theorem Bk.gr {w w' : World} {q J : Nat} {t : TypeId} {cs : Array Value} (h : Bk w q t cs) (hg : w.grownBy w' (some J)) (hne : q ≠ J) : Bk w' q t cs := h.grown hg (fun e => hne (Option.some.inj e))

set_option maxRecDepth 1000000 in
set_option maxHeartbeats 16000000 in
theorem right_tail15 (g J : Nat) (s : Stn) (sum : Int) (w0 : World) (n : Nat) (x y : Tr) (hx : RightAt g J s sum w0 n x) (hy : RightAt g J s sum w0 n y) (hJ0 : w0.heap.size ≤ J)
    (lo hi lo2 hi2 : List Int) (pn : Nat) (a L k wx wy : Int) (A : Option Addr) (c q5 q7 q8 : Nat) (w w9 : World) (hup : BoxIn s lo hi2) (hdn : BoxIn s lo2 hi)
    (hr : RowNe w9 J A (kidCells [x, y])) (hxt : TrAt w9 J x) (hyt : TrAt w9 J y) (hB0 : Below w0.heap.size w0 w9) (hB : Below w.heap.size w w9) (hJ : Bk w9 J 142 (judgeA g sum L))
    (B5 : Bk w9 q5 49 #[.int .i64 k, .int .i64 (pn : Int), .int .i64 a, .int .i64 wx, .int .i64 wy, .slice A 2 c]) (B7 : Bk w9 q7 103 (boxA lo hi2)) (B8 : Bk w9 q8 103 (boxA lo2 hi)) (hq5J : q5 ≠ J) (_hq7J : q7 ≠ J) (hq8J : q8 ≠ J)
    (hL0 : 0 ≤ L) (hL1 : L + (1 + sizeT x + sizeT y : Nat) ≤ 1000000000) (r : Option Nat)
    (hrr : r = match checkF s sum n x lo hi2 with
      | none => none
      | some m => match checkF s sum n y lo2 hi with
        | none => none
        | some m' => some (m + m'))
    (c1 c2 c3 c4 c6 c9 c10 c11 c12 c13 c14 c15 c16 c17 c18 c19 c20 c21 c22 c23 c24 c25 c26 c27 c28 c29 c30 c31 c32 c33 c34 c35 c36 c37 c38 c39 c40 c41 c42 c43 c44 c45 c46 c47 c48 c49 c50 c51 c52 c53 c54 c55 c56 c57 c58 c59 c60 c61 c62 c63 c64 c65 c66 c67 c68 c69 c70 c71 c72 c73 c74 c75 c76 c77 c78 c79 c80 c81 c82 c83 c84 c85 c86 c87 c88 c89 c90 c91 c92 c93 c94 c95 c96 c97 c98 c99 c100 c101 c102 c103 c104 c105 c106 c107 c108 c109 c110 c111 c112 c113 c114 c115 c116 c117 c118 c119 c120 c121 c122 c123 c124 c125 c126 c127 c128 c129 c130 c131 c132 c133 c134 c135 c136 : Value) :
    Code.wp Try.prog tail14 (bodyPost Try.prog Try.f105 (RightPost g J sum L r (1 + sizeT x + sizeT y) w)) ⟨#[.pointer (some ⟨J, 0, none⟩), c1, c2, c3, c4, .pointer (some ⟨q5, 0, none⟩), c6, .pointer (some ⟨q7, 0, none⟩), .pointer (some ⟨q8, 0, none⟩), c9, c10, c11, c12, c13, c14, c15, c16, c17, c18, c19, c20, c21, c22, c23, c24, c25, c26, c27, c28, c29, c30, c31, c32, c33, c34, c35, c36, c37, c38, c39, c40, c41, c42, c43, c44, c45, c46, c47, c48, c49, c50, c51, c52, c53, c54, c55, c56, c57, c58, c59, c60, c61, c62, c63, c64, c65, c66, c67, c68, c69, c70, c71, c72, c73, c74, c75, c76, c77, c78, c79, c80, c81, c82, c83, c84, c85, c86, c87, c88, c89, c90, c91, c92, c93, c94, c95, c96, c97, c98, c99, c100, c101, c102, c103, c104, c105, c106, c107, c108, c109, c110, c111, c112, c113, c114, c115, c116, c117, c118, c119, c120, c121, c122, c123, c124, c125, c126, c127, c128, c129, c130, c131, c132, c133, c134, c135, c136], []⟩ w9 := by
  conv => arg 2; whnf
  obtain ⟨l0, l1, l2, l3, l4, l5, l6, l7, e1⟩ := len8 hup.1
  obtain ⟨u0, u1, u2, u3, u4, u5, u6, u7, e2⟩ := len8 hup.2.1
  obtain ⟨d0, d1, d2, d3, d4, d5, d6, d7, e3⟩ := len8 hdn.1
  obtain ⟨h0, h1, h2, h3, h4, h5, h6, h7, e4⟩ := len8 hdn.2.1
  have eb1 : boxA lo hi2 = #[.int .i64 l0, .int .i64 l1, .int .i64 l2, .int .i64 l3, .int .i64 l4, .int .i64 l5, .int .i64 l6, .int .i64 l7, .int .i64 u0, .int .i64 u1, .int .i64 u2, .int .i64 u3, .int .i64 u4, .int .i64 u5, .int .i64 u6, .int .i64 u7] := by rw [e1, e2]; rfl
  have eb2 : boxA lo2 hi = #[.int .i64 d0, .int .i64 d1, .int .i64 d2, .int .i64 d3, .int .i64 d4, .int .i64 d5, .int .i64 d6, .int .i64 d7, .int .i64 h0, .int .i64 h1, .int .i64 h2, .int .i64 h3, .int .i64 h4, .int .i64 h5, .int .i64 h6, .int .i64 h7] := by rw [e3, e4]; rfl
  clear e1 e2 e3 e4
  have HX : Hid (∀ W, Below w9.heap.size w9 W → Calls Try.prog 105 #[.pointer (some ⟨J, 0, none⟩), .agg #[.int .i64 l0, .int .i64 l1, .int .i64 l2, .int .i64 l3, .int .i64 l4, .int .i64 l5, .int .i64 l6, .int .i64 l7, .int .i64 u0, .int .i64 u1, .int .i64 u2, .int .i64 u3, .int .i64 u4, .int .i64 u5, .int .i64 u6, .int .i64 u7], x.val] W (RightPost g J sum L (checkF s sum n x lo hi2) (sizeT x) W)) := fun W h => by
    rw [← eb1]
    exact hx lo hi2 L W hup (hxt.keep h) (hB0.trans (h.mono hB0.size)) (hJ.keep h) hL0 (by omega)
  have HY : Hid (∀ (W : World) (L2 : Int), w9.grownBy W (some J) → Bk W J 142 (judgeA g sum L2) → L ≤ L2 → L2 ≤ L + sizeT x → Calls Try.prog 105 #[.pointer (some ⟨J, 0, none⟩), .agg #[.int .i64 d0, .int .i64 d1, .int .i64 d2, .int .i64 d3, .int .i64 d4, .int .i64 d5, .int .i64 d6, .int .i64 d7, .int .i64 h0, .int .i64 h1, .int .i64 h2, .int .i64 h3, .int .i64 h4, .int .i64 h5, .int .i64 h6, .int .i64 h7], y.val] W (RightPost g J sum L2 (checkF s sum n y lo2 hi) (sizeT y) W)) := fun W L2 h hj h1 h2 => by
    rw [← eb2]
    exact hy lo2 hi L2 W hdn (hyt.grown h) (hB0.grown h hB0.size (fun r e => by have := Option.some.inj e; omega)) hj (by omega) (by omega)
  rw [eb1] at B7
  rw [eb2] at B8
  have KXC := fun (k p a : Int) (way : Int × Int) (B : Option Addr) (c : Nat) (ks : List Tr) (e : x = .mk k p a way B c ks) => kid_cells (j := 0) hr (by simp) (by simpa using e)
  have KYC := fun (k p a : Int) (way : Int × Int) (B : Option Addr) (c : Nat) (ks : List Tr) (e : y = .mk k p a way B c ks) => kid_cells (j := 1) hr (by simp) (by simpa using e)
  have HRR := Lib.hid (And.intro hrr (And.intro hL0 hL1))
  have HBB := Lib.hid (And.intro hB (And.intro hJ (And.intro B8 B5)))
  generalize checkF s sum n x lo hi2 = r1 at *
  generalize checkF s sum n y lo2 hi = r2 at *
  generalize hsx : sizeT x = sx at *
  generalize hsy : sizeT y = sy at *
  obtain ⟨xk, xp, xa, xw, xA, xc, xks⟩ := x
  obtain ⟨yk, yp, ya, yw, yA, yc, yks⟩ := y
  obtain ⟨b, off, hA, hbl, k0, k1, k2, k3, k4, k5⟩ := KXC _ _ _ _ _ _ _ rfl
  obtain ⟨b', off', hA', _, m0, m1, m2, m3, m4, m5⟩ := KYC _ _ _ _ _ _ _ rfl
  rw [hA] at hA'
  obtain ⟨rfl, rfl⟩ : b = b' ∧ off = off' := by
    have := Option.some.inj hA'
    simp only [Addr.mk.injEq, and_true] at this
    exact this
  have hbJ : b ≠ J := by
    obtain ⟨b2, off2, h1, _, h3, _⟩ := hr.kid (by simp)
    rw [hA] at h1
    have := Option.some.inj h1
    simp only [Addr.mk.injEq, and_true] at this
    omega
  subst hA
  clear hA' KXC KYC eb1 eb2 hrr hup hdn hx hy hxt hyt hr hB0 hB hJ hL0 hL1 hsx hsy
  replace HX : Hid (∀ W, Below w9.heap.size w9 W → Calls Try.prog 105 #[.pointer (some ⟨J, 0, none⟩), .agg #[.int .i64 l0, .int .i64 l1, .int .i64 l2, .int .i64 l3, .int .i64 l4, .int .i64 l5, .int .i64 l6, .int .i64 l7, .int .i64 u0, .int .i64 u1, .int .i64 u2, .int .i64 u3, .int .i64 u4, .int .i64 u5, .int .i64 u6, .int .i64 u7], .agg #[.int .i64 xk, .int .i64 xp, .int .i64 xa, .int .i64 xw.1, .int .i64 xw.2, .slice xA xks.length xc]] W (RightPost g J sum L r1 sx W)) := HX
  replace HY : Hid (∀ (W : World) (L2 : Int), w9.grownBy W (some J) → Bk W J 142 (judgeA g sum L2) → L ≤ L2 → L2 ≤ L + sx → Calls Try.prog 105 #[.pointer (some ⟨J, 0, none⟩), .agg #[.int .i64 d0, .int .i64 d1, .int .i64 d2, .int .i64 d3, .int .i64 d4, .int .i64 d5, .int .i64 d6, .int .i64 d7, .int .i64 h0, .int .i64 h1, .int .i64 h2, .int .i64 h3, .int .i64 h4, .int .i64 h5, .int .i64 h6, .int .i64 h7], .agg #[.int .i64 yk, .int .i64 yp, .int .i64 ya, .int .i64 yw.1, .int .i64 yw.2, .slice yA yks.length yc]] W (RightPost g J sum L2 r2 sy W)) := HY
  simp only [Nat.zero_mul, Nat.add_zero, Nat.one_mul] at k0 k1 k2 k3 k4 k5 m0 m1 m2 m3 m4 m5
  have KC := Lib.hid (And.intro k0 (And.intro m0 (And.intro m1 (And.intro m2 (And.intro m3 (And.intro m4 m5))))))
  clear m0 m1 m2 m3 m4 m5
  have z0 := B7.cell 0
  have z1 := B7.cell 1
  have z2 := B7.cell 2
  have z3 := B7.cell 3
  have z4 := B7.cell 4
  have z5 := B7.cell 5
  have z6 := B7.cell 6
  have z7 := B7.cell 7
  have z8 := B7.cell 8
  have z9 := B7.cell 9
  have z10 := B7.cell 10
  have z11 := B7.cell 11
  have z12 := B7.cell 12
  have z13 := B7.cell 13
  have z14 := B7.cell 14
  have z15 := B7.cell 15
  simp at z0 z1 z2 z3 z4 z5 z6 z7 z8 z9 z10 z11 z12 z13 z14 z15
  have t5 := B5.cell 5
  simp at t5
  replace z0 := fun x : Ext w9 => keepc x.bel z0
  replace z1 := fun x : Ext w9 => keepc x.bel z1
  replace z2 := fun x : Ext w9 => keepc x.bel z2
  replace z3 := fun x : Ext w9 => keepc x.bel z3
  replace z4 := fun x : Ext w9 => keepc x.bel z4
  replace z5 := fun x : Ext w9 => keepc x.bel z5
  replace z6 := fun x : Ext w9 => keepc x.bel z6
  replace z7 := fun x : Ext w9 => keepc x.bel z7
  replace z8 := fun x : Ext w9 => keepc x.bel z8
  replace z9 := fun x : Ext w9 => keepc x.bel z9
  replace z10 := fun x : Ext w9 => keepc x.bel z10
  replace z11 := fun x : Ext w9 => keepc x.bel z11
  replace z12 := fun x : Ext w9 => keepc x.bel z12
  replace z13 := fun x : Ext w9 => keepc x.bel z13
  replace z14 := fun x : Ext w9 => keepc x.bel z14
  replace z15 := fun x : Ext w9 => keepc x.bel z15
  replace t5 := fun x : Ext w9 => keepc x.bel t5
  replace k0 := fun x : Ext w9 => keepc x.bel k0
  replace k1 := fun x : Ext w9 => keepc x.bel k1
  replace k2 := fun x : Ext w9 => keepc x.bel k2
  replace k3 := fun x : Ext w9 => keepc x.bel k3
  replace k4 := fun x : Ext w9 => keepc x.bel k4
  replace k5 := fun x : Ext w9 => keepc x.bel k5
  clear B7 B8 B5
  go_upto_region 15 with fail
  refine wp_region_mix2 6 8 14 (C := fun w' => ∃ x : Ext w9, w' = x.w) (fun w x => ∃ y : Ext w, x = y.w) (fun w => ⟨⟨w, Below.refl _ _⟩, rfl⟩) (by kernel_rfl) (by kernel_rfl) (fun _ _ d _ _ h => by cases d <;> exact h) (Ext.here w9) ?_
  simp only [List.take_succ_cons, List.take_zero, List.drop_succ_cons, List.drop_zero, Nat.reduceSub]
  repeat (go_big_quiet_step (fail))
  refine wpQuiet_nil ?_
  rintro _ ⟨y, rfl⟩
  clear z0 z1 z2 z3 z4 z5 z6 z7 z8 z9 z10 z11 z12 z13 z14 z15 t5 k0 k1 k2 k3 k4 k5
  have hb := y.bel
  generalize y.w = w10 at hb ⊢
  have HX2 := Lib.hid (HX.out w10 hb)
  clear HX
  go_wp2_with (go_at_call 105; refine (HX2.out).mono ?_; rintro e w11 ⟨rfl, hg, L2, hj2, hm, hl1, hl2⟩)
  have hgA : w.grownBy w11 (some J) := grow_trans (grow_trans (grow_below HBB.out.1) (grow_below hb)) hg
  have hgB : w9.grownBy w11 (some J) := grow_trans (grow_below hb) hg
  have B8 := (HBB.out.2.2.1).gr hgB hq8J
  have B5 := (HBB.out.2.2.2).gr hgB hq5J
  have HG := Lib.hid (And.intro hgA (And.intro hgB hj2))
  have HL := Lib.hid (And.intro hm (And.intro hl1 hl2))
  clear hgA hg hj2 hm hl1 hl2 HX2
  simp only [stageQ]
  cases r1 with
  | none =>
    clear B8 B5
    simp only [Option.isSome_none]
    repeat (go_big_quiet_step (fail))
    refine wpQuiet_nil ?_
    rintro _ ⟨y2, rfl⟩
    have hb2 := y2.bel
    generalize y2.w = w12 at hb2 ⊢
    have hJ12 := HG.out.2.2.keep hb2
    have HF := Lib.hid (And.intro hb2 hJ12)
    clear hb2 hJ12
    go_wp2_with fail
    go_ret
    obtain ⟨hrr, hL0, hL1⟩ := HRR.out
    obtain ⟨hm, hl1, hl2⟩ := HL.out
    refine ⟨by rw [hrr]; rfl, grow_trans HG.out.1 (grow_below HF.out.1), L2, HF.out.2, by rw [hrr]; simp, hl1, by omega⟩
  | some mm =>
    simp only [Option.isSome_some]
    have z0 := B8.cell 0
    have z1 := B8.cell 1
    have z2 := B8.cell 2
    have z3 := B8.cell 3
    have z4 := B8.cell 4
    have z5 := B8.cell 5
    have z6 := B8.cell 6
    have z7 := B8.cell 7
    have z8 := B8.cell 8
    have z9 := B8.cell 9
    have z10 := B8.cell 10
    have z11 := B8.cell 11
    have z12 := B8.cell 12
    have z13 := B8.cell 13
    have z14 := B8.cell 14
    have z15 := B8.cell 15
    simp at z0 z1 z2 z3 z4 z5 z6 z7 z8 z9 z10 z11 z12 z13 z14 z15
    have t5 := B5.cell 5
    simp at t5
    obtain ⟨k0, m0, m1, m2, m3, m4, m5⟩ := KC.out
    replace m0 := hgB.cell m0 (fun e => hbJ (Option.some.inj e))
    replace m1 := hgB.cell m1 (fun e => hbJ (Option.some.inj e))
    replace m2 := hgB.cell m2 (fun e => hbJ (Option.some.inj e))
    replace m3 := hgB.cell m3 (fun e => hbJ (Option.some.inj e))
    replace m4 := hgB.cell m4 (fun e => hbJ (Option.some.inj e))
    replace m5 := hgB.cell m5 (fun e => hbJ (Option.some.inj e))
    replace z0 := fun x : Ext w11 => keepc x.bel z0
    replace z1 := fun x : Ext w11 => keepc x.bel z1
    replace z2 := fun x : Ext w11 => keepc x.bel z2
    replace z3 := fun x : Ext w11 => keepc x.bel z3
    replace z4 := fun x : Ext w11 => keepc x.bel z4
    replace z5 := fun x : Ext w11 => keepc x.bel z5
    replace z6 := fun x : Ext w11 => keepc x.bel z6
    replace z7 := fun x : Ext w11 => keepc x.bel z7
    replace z8 := fun x : Ext w11 => keepc x.bel z8
    replace z9 := fun x : Ext w11 => keepc x.bel z9
    replace z10 := fun x : Ext w11 => keepc x.bel z10
    replace z11 := fun x : Ext w11 => keepc x.bel z11
    replace z12 := fun x : Ext w11 => keepc x.bel z12
    replace z13 := fun x : Ext w11 => keepc x.bel z13
    replace z14 := fun x : Ext w11 => keepc x.bel z14
    replace z15 := fun x : Ext w11 => keepc x.bel z15
    replace t5 := fun x : Ext w11 => keepc x.bel t5
    replace m0 := fun x : Ext w11 => keepc x.bel m0
    replace m1 := fun x : Ext w11 => keepc x.bel m1
    replace m2 := fun x : Ext w11 => keepc x.bel m2
    replace m3 := fun x : Ext w11 => keepc x.bel m3
    replace m4 := fun x : Ext w11 => keepc x.bel m4
    replace m5 := fun x : Ext w11 => keepc x.bel m5
    clear B8 B5 k0 hgB
    repeat (go_big_quiet_step (fail))
    refine wpQuiet_nil ?_
    rintro _ ⟨y2, rfl⟩
    clear z0 z1 z2 z3 z4 z5 z6 z7 z8 z9 z10 z11 z12 z13 z14 z15 t5 m0 m1 m2 m3 m4 m5
    have hb2 := y2.bel
    generalize y2.w = w12 at hb2 ⊢
    have HY2 := Lib.hid (HY.out w12 L2 (grow_trans HG.out.2.1 (grow_below hb2)) (HG.out.2.2.keep hb2) HL.out.2.1 HL.out.2.2)
    clear HY
    go_wp2_with (go_at_call 105; refine (HY2.out).mono ?_; rintro e w13 ⟨rfl, hg, L3, hj3, hm3, hl3, hl4⟩)
    have HF := Lib.hid (And.intro (grow_trans (grow_trans HG.out.1 (grow_below hb2)) hg) (And.intro hj3 (And.intro hm3 (And.intro hl3 hl4))))
    clear hg hj3 hm3 hl3 hl4 hb2
    go_ret
    obtain ⟨hrr, hL0, hL1⟩ := HRR.out
    obtain ⟨hm, hl1, hl2⟩ := HL.out
    obtain ⟨f1, f2, f3, f4, f5⟩ := HF.out
    have e2 := hm mm rfl
    cases r2 with
    | none => exact ⟨by rw [hrr]; rfl, f1, L3, f2, by rw [hrr]; simp, by omega, by omega⟩
    | some m3 =>
      have e3 := f3 m3 rfl
      refine ⟨by rw [hrr]; rfl, f1, L3, f2, fun m' hm' => ?_, by omega, by omega⟩
      rw [hrr] at hm'
      simp only [Option.some.injEq] at hm'
      omega


end Go.Proofs.Ythmngnfdfelkeaa
