/-
  What is proved: the tail of (*prover).grow: from the two stores on.
-/
import Derived.Test.YthmngnfdfelkeaaTGTailMg
namespace Go.Proofs.Ythmngnfdfelkeaa
open Go.RowKit
attribute [local go_sem ↓] max_int min_int

theorem set_below {w : World} {B b o : Nat} {v : Value} (h : B ≤ b) : Below B w (w.setCell ⟨b, o, none⟩ v) := (Below.refl _ _).setCell (p := ⟨b, o, none⟩) h v

theorem grow_set {w w' : World} {r : Option Nat} {b o : Nat} {v : Value} (h : w.grownBy w' r) (hb : w.heap.size ≤ b) : w.grownBy (w'.setCell ⟨b, o, none⟩ v) r :=
  ⟨h.os, h.tape, h.output, by have := h.size; simpa using this, fun k hk hne => (Below.heap_setCell w' ⟨b, o, none⟩ v k (by simp; omega)).trans (h.block k hk hne)⟩
theorem set_other {w' : World} {b o k : Nat} {v : Value} (h : k ≠ b) : (w'.setCell ⟨b, o, none⟩ v).heap[k]? = w'.heap[k]? := Below.heap_setCell w' ⟨b, o, none⟩ v k h

theorem grow_set6 {w w' : World} {r : Option Nat} {b : Nat} {v0 v1 v2 v3 v4 v5 : Value} (h : w.grownBy w' r) (hb : w.heap.size ≤ b) : w.grownBy ((((((w'.setCell ⟨b, 0, none⟩ v0).setCell ⟨b, 1, none⟩ v1).setCell ⟨b, 2, none⟩ v2).setCell ⟨b, 3, none⟩ v3).setCell ⟨b, 4, none⟩ v4).setCell ⟨b, 5, none⟩ v5) r :=
  grow_set (grow_set (grow_set (grow_set (grow_set (grow_set h hb) hb) hb) hb) hb) hb
theorem far6 {w' : World} {q b T : Nat} {cs : Array Value} {v0 v1 v2 v3 v4 v5 : Value} (h : Bk w' q T cs) (hb : q ≠ b) : Bk ((((((w'.setCell ⟨b, 0, none⟩ v0).setCell ⟨b, 1, none⟩ v1).setCell ⟨b, 2, none⟩ v2).setCell ⟨b, 3, none⟩ v3).setCell ⟨b, 4, none⟩ v4).setCell ⟨b, 5, none⟩ v5) q T cs :=
  (((((h.far (p := ⟨b, 0, none⟩) hb v0).far (p := ⟨b, 1, none⟩) hb v1).far (p := ⟨b, 2, none⟩) hb v2).far (p := ⟨b, 3, none⟩) hb v3).far (p := ⟨b, 4, none⟩) hb v4).far (p := ⟨b, 5, none⟩) hb v5
theorem other6 {w' : World} {k b : Nat} {v0 v1 v2 v3 v4 v5 : Value} (h : k ≠ b) : ((((((w'.setCell ⟨b, 0, none⟩ v0).setCell ⟨b, 1, none⟩ v1).setCell ⟨b, 2, none⟩ v2).setCell ⟨b, 3, none⟩ v3).setCell ⟨b, 4, none⟩ v4).setCell ⟨b, 5, none⟩ v5).heap[k]? = w'.heap[k]? :=
  (set_other h).trans ((set_other h).trans ((set_other h).trans ((set_other h).trans ((set_other h).trans (set_other h)))))
theorem size6 {w' : World} {b : Nat} {v0 v1 v2 v3 v4 v5 : Value} : ((((((w'.setCell ⟨b, 0, none⟩ v0).setCell ⟨b, 1, none⟩ v1).setCell ⟨b, 2, none⟩ v2).setCell ⟨b, 3, none⟩ v3).setCell ⟨b, 4, none⟩ v4).setCell ⟨b, 5, none⟩ v5).heap.size = w'.heap.size := by simp
set_option maxRecDepth 100000 in
theorem buildTwo (W : World) (xk xp xa xwx xwy yk yp ya ywx ywy : Int) (xA yA : Option Addr) (xl xc yl yc : Nat) :
    (Instr.buildSlice 47 2 #[(0, .agg #[.int .i64 xk, .int .i64 xp, .int .i64 xa, .int .i64 xwx, .int .i64 xwy, .slice xA xl xc]), (1, .agg #[.int .i64 yk, .int .i64 yp, .int .i64 ya, .int .i64 ywx, .int .i64 ywy, .slice yA yl yc])]).run Try.prog W =
      .ok (.slice (some ⟨W.heap.size, 0, none⟩) 2 2) (W.alloc (.cells #[.int .i64 xk, .int .i64 xp, .int .i64 xa, .int .i64 xwx, .int .i64 xwy, .slice xA xl xc, .int .i64 yk, .int .i64 yp, .int .i64 ya, .int .i64 ywx, .int .i64 ywy, .slice yA yl yc] 49)) := by
  kernel_rfl
theorem rowNe_bk {w : World} {q b T : Nat} {arr : Array Value} {xs : List Value} (h : Bk w b T arr) (e : arr.toList = xs) (hne : b ≠ q) : RowNe w q (some ⟨b, 0, none⟩) xs := fun _ =>
  ⟨b, 0, rfl, h.lt, hne, fun j u hu => by
    have h1 := h.cell j
    rw [Nat.zero_add, h1, ← hu, ← e]
    simp⟩
theorem branch_check {s : Stn} {sum mid : Int} {lo hi : List Int} {pn c : Nat} {A : Option Addr} {x y : Tr} (hb : braB s (pn : Int) mid (0, 0) 2 lo hi = true)
    (hx : ∀ n, sizeT x ≤ n → ∃ m, checkF s sum n x lo (hi.set pn mid) = some m) (hy : ∀ n, sizeT y ≤ n → ∃ m, checkF s sum n y (lo.set pn (mid + 1)) hi = some m) :
    ∀ n, sizeT (.mk 3 (pn : Int) mid (0, 0) A c [x, y]) ≤ n → ∃ m, checkF s sum n (.mk 3 (pn : Int) mid (0, 0) A c [x, y]) lo hi = some m
  | 0, h => by simp only [sizeT] at h; omega
  | n + 1, h => by
    simp only [sizeT, sizeL] at h
    obtain ⟨m1, h1⟩ := hx n (by omega)
    obtain ⟨m2, h2⟩ := hy n (by omega)
    refine ⟨m1 + m2, ?_⟩
    simp only [checkF]
    rw [if_neg (by omega), if_neg (by omega), if_pos trivial]
    have hb2 : braB s (pn : Int) mid (0, 0) [x, y].length lo hi = true := hb
    rw [if_pos hb2]
    simp only [Int.toNat_natCast, h1, h2]


theorem grow_end (g Pb : Nat) (s : Stn) (sum : Int) (lo hi : List Int) (n pn r4 : Nat) (mid lf1 lf2 : Int) (w w9 w10 w11 w12 w13 W6 : World) (xk xp xa xwx xwy yk yp ya ywx ywy : Int) (xA yA : Option Addr) (xc yc : Nat) (xks yks : List Tr) (okb : Bool)
    (hv : volF lo (hi.set pn mid) 8 + volF (lo.set pn (mid + 1)) hi 8 = volF lo hi 8) (hbra : braB s (pn : Int) mid (0, 0) 2 lo hi = true)
    (hw9 : w.heap.size ≤ w9.heap.size) (hPb : Pb < w.heap.size) (hr4 : r4 < w9.heap.size) (hs10 : w9.heap.size ≤ w10.heap.size) (hs6 : W6.heap.size = w13.heap.size) (ho6 : ∀ k, k ≠ r4 → W6.heap[k]? = w13.heap[k]?) (hg6 : w.grownBy W6 (some Pb)) (hP6 : Bk W6 Pb 133 (proverA g sum lf2))
    (hba : Below w10.heap.size w10 w11) (hg12 : w11.grownBy w12 (some Pb)) (hbc : Below w12.heap.size w12 w13)
    (t1 : TrAt w10 Pb (.mk xk xp xa (xwx, xwy) xA xc xks)) (t2 : TrGe w9.heap.size (.mk xk xp xa (xwx, xwy) xA xc xks)) (t3 : lf1 = (n : Int) - sizeT (.mk xk xp xa (xwx, xwy) xA xc xks)) (t5 : sizeT (.mk xk xp xa (xwx, xwy) xA xc xks) + 1 ≤ 2 * volF lo (hi.set pn mid) 8) (t6 : ∀ n, sizeT (.mk xk xp xa (xwx, xwy) xA xc xks) ≤ n → ∃ m, checkF s sum n (.mk xk xp xa (xwx, xwy) xA xc xks) lo (hi.set pn mid) = some m)
    (hT2 : okb = true → TrAt w12 Pb (.mk yk yp ya (ywx, ywy) yA yc yks) ∧ TrGe w11.heap.size (.mk yk yp ya (ywx, ywy) yA yc yks) ∧ lf2 = lf1 - sizeT (.mk yk yp ya (ywx, ywy) yA yc yks) ∧ 0 ≤ lf2 ∧ sizeT (.mk yk yp ya (ywx, ywy) yA yc yks) + 1 ≤ 2 * volF (lo.set pn (mid + 1)) hi 8 ∧ ∀ n, sizeT (.mk yk yp ya (ywx, ywy) yA yc yks) ≤ n → ∃ m, checkF s sum n (.mk yk yp ya (ywx, ywy) yA yc yks) (lo.set pn (mid + 1)) hi = some m)
    (hF2 : okb = false → lf1 + 1 < 2 * (volF (lo.set pn (mid + 1)) hi 8 : Int)) :
    GrowPost g Pb s sum lo hi (n + 1) w (.returned (.tuple #[.agg #[.int .i64 3, .int .i64 pn, .int .i64 mid, .int .i64 0, .int .i64 0, .slice (some ⟨w13.heap.size, 0, none⟩) 2 2], .bool okb])) (W6.alloc (.cells #[.int .i64 xk, .int .i64 xp, .int .i64 xa, .int .i64 xwx, .int .i64 xwy, .slice xA xks.length xc, .int .i64 yk, .int .i64 yp, .int .i64 ya, .int .i64 ywx, .int .i64 ywy, .slice yA yks.length yc] 49)) := by
  have hs11 := hba.size
  have hs12 := hg12.size
  have hs13 := hbc.size
  have hbk : Below W6.heap.size W6 (W6.alloc (.cells #[.int .i64 xk, .int .i64 xp, .int .i64 xa, .int .i64 xwx, .int .i64 xwy, .slice xA xks.length xc, .int .i64 yk, .int .i64 yp, .int .i64 ya, .int .i64 ywx, .int .i64 ywy, .slice yA yks.length yc] 49)) := (Below.refl _ _).alloc (Nat.le_refl _) _
  refine ⟨3, pn, mid, 0, 0, some ⟨w13.heap.size, 0, none⟩, 2, [(.mk xk xp xa (xwx, xwy) xA xc xks), (.mk yk yp ya (ywx, ywy) yA yc yks)], okb, lf2, rfl, grow_trans hg6 (grow_below hbk), hP6.keep hbk, fun hok2 => ?_, fun hok2 => ?_⟩
  · obtain ⟨u1, u2, u3, u4, u5, u6⟩ := hT2 hok2
    have g1 : TrAt w13 Pb (.mk xk xp xa (xwx, xwy) xA xc xks) := ((t1.keep hba).grown hg12).keep hbc
    have g2 : TrAt w13 Pb (.mk yk yp ya (ywx, ywy) yA yc yks) := u1.keep hbc
    have gb : TrGe w9.heap.size (.mk yk yp ya (ywx, ywy) yA yc yks) := u2.mono (by omega)
    refine ⟨.mk (rowNe_bk (T := 49) (arr := #[.int .i64 xk, .int .i64 xp, .int .i64 xa, .int .i64 xwx, .int .i64 xwy, .slice xA xks.length xc, .int .i64 yk, .int .i64 yp, .int .i64 ya, .int .i64 ywx, .int .i64 ywy, .slice yA yks.length yc]) (bk_last hs6) rfl (by omega)) (by simp) ?_ (fun h => by cases h), .mk (fun a e => by cases e; simp; omega) ?_, ?_, u4, ?_, branch_check hbra t6 u6⟩
    · intro t ht
      have ht2 : TrAt w13 Pb t ∧ TrGe w9.heap.size t := by
        simp only [List.mem_cons, List.not_mem_nil, or_false] at ht
        rcases ht with rfl | rfl
        · exact ⟨g1, t2⟩
        · exact ⟨g2, gb⟩
      exact (ht2.1.move ht2.2 (Nat.le_of_eq hs6.symm) (fun b hb1 hb2 => ho6 b (by omega))).keep hbk
    · intro t ht
      simp only [List.mem_cons, List.not_mem_nil, or_false] at ht
      rcases ht with rfl | rfl
      · exact t2.mono hw9
      · exact gb.mono hw9
    · simp only [sizeT, sizeL] at u3 t3 ⊢
      omega
    · simp only [sizeT, sizeL] at u5 t5 ⊢
      omega
  · have := hF2 hok2
    simp only [sizeT] at *
    omega

set_option maxRecDepth 1000000 in
set_option maxHeartbeats 16000000 in
theorem grow_tail (g Pb : Nat) (s : Stn) (sum : Int) (w0 : World) (hok : s.ok = true) (n : Nat) (ih : ∀ m, m ≤ n → GrowAt g Pb s sum w0 m) (hPb0 : w0.heap.size ≤ Pb) (lo hi : List Int) (pn q10 q11 r4 : Nat) (mid : Int) (w w8 : World)
    (hp8 : pn < 8) (hpN : pn < s.pockets.length) (hbx : BoxIn s lo hi) (hm1 : lo.getD pn 0 ≤ mid) (hm2 : mid < hi.getD pn 0) (hB0 : Below w0.heap.size w0 w8) (hg : w.grownBy w8 (some Pb)) (hPw : Pb < w.heap.size)
    (P8 : Bk w8 Pb 133 (proverA g sum n)) (R4 : Bk w8 r4 49 #[.int .i64 0, .int .i64 0, .int .i64 0, .int .i64 0, .int .i64 0, .slice none 0 0]) (hr4 : w.heap.size ≤ r4) (B10 : Bk w8 q10 103 (boxA lo hi)) (B11 : Bk w8 q11 103 (boxA lo hi)) (h1011 : q10 ≠ q11) (h410 : r4 ≠ q10) (h411 : r4 ≠ q11) (hq10 : w.heap.size ≤ q10) (hq11 : w.heap.size ≤ q11)
    (c1 c2 c3 c5 c6 c7 c12 c13 c14 c15 c16 c17 c18 c19 c20 c21 c22 c23 c24 c25 c26 c27 c28 c29 c30 c31 c32 c33 c34 c35 c36 c37 c38 c39 c40 c41 c42 c43 c44 c45 c46 c47 c48 c49 c50 c51 c52 c53 c54 c55 c56 c57 c58 c59 c60 c61 c62 c63 c64 c65 c66 c67 c68 c69 c70 c71 c72 c73 c74 c75 c76 c77 c78 c79 c80 c81 c82 c83 c84 c85 c86 c87 c88 c89 c90 c91 c92 c93 c94 c95 : Value) :
    Code.wp Try.prog gtail14 (bodyPost Try.prog Try.f103 (GrowPost g Pb s sum lo hi (n + 1) w)) ⟨#[.pointer (some ⟨Pb, 0, none⟩), c1, c2, c3, .pointer (some ⟨r4, 0, none⟩), c5, c6, c7, .int .i64 (pn : Int), .int .i64 mid, .pointer (some ⟨q10, 0, none⟩), .pointer (some ⟨q11, 0, none⟩), c12, c13, c14, c15, c16, c17, c18, c19, c20, c21, c22, c23, c24, c25, c26, c27, c28, c29, c30, c31, c32, c33, c34, c35, c36, c37, c38, c39, c40, c41, c42, c43, c44, c45, c46, c47, c48, c49, c50, c51, c52, c53, c54, c55, c56, c57, c58, c59, c60, c61, c62, c63, c64, c65, c66, c67, c68, c69, c70, c71, c72, c73, c74, c75, c76, c77, c78, c79, c80, c81, c82, c83, c84, c85, c86, c87, c88, c89, c90, c91, c92, c93, c94, c95], []⟩ w8 := by
  have hup : BoxIn s lo (hi.set pn mid) := hbx.up hp8 hm1 hm2
  have hdn : BoxIn s (lo.set pn (mid + 1)) hi := hbx.down hp8 hm1 hm2
  have hvol := vol_split hbx hp8 hm1 hm2
  have hv1 := vol_pos hup
  have hv2 := vol_pos hdn
  have hmid : 0 ≤ mid ∧ mid ≤ 255 := by
    have h1 := hbx.2.2 pn hp8
    have h2 := high_small hok hp8
    omega
  have hbra : braB s (pn : Int) mid (0, 0) 2 lo hi = true := by
    have f1 : decide (lo.getD pn 0 ≤ mid) = true := decide_eq_true hm1
    have f2 : decide (mid < hi.getD pn 0) = true := decide_eq_true hm2
    have f3 : inB (pn : Int) 0 ((s.pockets.length : Int) - 1) = true := by simp [inB]; omega
    simp only [braB, f3, Int.toNat_natCast, f1, f2]
    rfl
  conv => arg 2; whnf
  obtain ⟨w9, hw9⟩ : ∃ W, (w8.setCell ⟨q10, 8 + pn, none⟩ (.int .i64 mid)).setCell ⟨q11, pn, none⟩ (.int .i64 (mid + 1)) = W := ⟨_, rfl⟩
  have C10 : Bk w9 q10 103 (boxA lo (hi.set pn mid)) := by
    have h := (B10.put (8 + pn) (.int .i64 mid)).far (p := ⟨q11, pn, none⟩) h1011 (.int .i64 (mid + 1))
    rw [boxA_set hbx.1, hw9] at h
    exact h
  have C11 : Bk w9 q11 103 (boxA (lo.set pn (mid + 1)) hi) := by
    have h := (B11.far (p := ⟨q10, 8 + pn, none⟩) h1011.symm (.int .i64 mid)).put pn (.int .i64 (mid + 1))
    rw [boxA_setlo hbx.1 hp8, hw9] at h
    exact h
  have R9 : Bk w9 r4 49 #[.int .i64 0, .int .i64 0, .int .i64 0, .int .i64 0, .int .i64 0, .slice none 0 0] := by rw [← hw9]; exact (R4.far (p := ⟨q10, 8 + pn, none⟩) h410 _).far (p := ⟨q11, pn, none⟩) h411 _
  have P9 : Bk w9 Pb 133 (proverA g sum n) := by rw [← hw9]; exact (P8.far (p := ⟨q10, 8 + pn, none⟩) (by simp; omega) _).far (p := ⟨q11, pn, none⟩) (by simp; omega) _
  have hb89 : Below w.heap.size w8 w9 := by rw [← hw9]; exact (set_below hq10).trans (set_below hq11)
  have hg9 : w.grownBy w9 (some Pb) := ⟨hb89.os.trans hg.os, hb89.tape.trans hg.tape, hb89.output.trans hg.output, Nat.le_trans hg.size hb89.size, fun k hk hne => (hb89.block k hk).trans (hg.block k hk hne)⟩
  have hB09 : Below w0.heap.size w0 w9 := hB0.trans (hb89.mono (by omega))
  have HW9 := Lib.hid hw9
  have HX : Hid (Calls Try.prog 103 #[.pointer (some ⟨Pb, 0, none⟩), .agg (boxA lo (hi.set pn mid))] w9 (GrowPost g Pb s sum lo (hi.set pn mid) n w9)) := ih n (Nat.le_refl _) lo (hi.set pn mid) w9 hup hB09 P9
  have HY : Hid (∀ (m : Nat) (W : World), m ≤ n → w9.grownBy W (some Pb) → Bk W Pb 133 (proverA g sum m) → Calls Try.prog 103 #[.pointer (some ⟨Pb, 0, none⟩), .agg (boxA (lo.set pn (mid + 1)) hi)] W (GrowPost g Pb s sum (lo.set pn (mid + 1)) hi m W)) := fun m W hm h hp =>
    ih m hm (lo.set pn (mid + 1)) hi W hdn (hB09.grown h hB09.size (fun r e => by have := Option.some.inj e; omega)) hp
  obtain ⟨l0, l1, l2, l3, l4, l5, l6, l7, e1⟩ := len8 hup.1
  obtain ⟨u0, u1, u2, u3, u4, u5, u6, u7, e2⟩ := len8 hup.2.1
  obtain ⟨d0, d1, d2, d3, d4, d5, d6, d7, e3⟩ := len8 hdn.1
  obtain ⟨h0, h1, h2, h3, h4, h5, h6, h7, e4⟩ := len8 hdn.2.1
  have eb1 : boxA lo (hi.set pn mid) = #[.int .i64 l0, .int .i64 l1, .int .i64 l2, .int .i64 l3, .int .i64 l4, .int .i64 l5, .int .i64 l6, .int .i64 l7, .int .i64 u0, .int .i64 u1, .int .i64 u2, .int .i64 u3, .int .i64 u4, .int .i64 u5, .int .i64 u6, .int .i64 u7] := by rw [e1, e2]; rfl
  have eb2 : boxA (lo.set pn (mid + 1)) hi = #[.int .i64 d0, .int .i64 d1, .int .i64 d2, .int .i64 d3, .int .i64 d4, .int .i64 d5, .int .i64 d6, .int .i64 d7, .int .i64 h0, .int .i64 h1, .int .i64 h2, .int .i64 h3, .int .i64 h4, .int .i64 h5, .int .i64 h6, .int .i64 h7] := by rw [e3, e4]; rfl
  rw [eb1] at C10 HX
  rw [eb2] at C11 HY
  have z0 := B10.cell (8 + pn)
  rw [boxA_hi hbx.1 hbx.2.1 hp8] at z0
  have z1 := B11.cell pn
  rw [boxA_lo hbx.1 hp8] at z1
  have f0 := B10.fz (8 + pn)
  have f1 := B11.fz pn
  have hl10 := B10.lt
  have hl11 := B11.lt
  have hp8I : (pn : Int) < 8 := by omega
  have hwr := IntWalk.i64_in (mid + 1) (by omega)
  have HV := Lib.hid (And.intro hvol (And.intro hv1 hv2))
  have HBR := Lib.hid (And.intro hbra hbx)
  have hsz9 := hg9.size
  have hr9 : r4 < w9.heap.size := R9.lt
  have HG9 := Lib.hid (And.intro hg9 (And.intro R9 C11))
  clear e1 e2 e3 e4 eb1 eb2 hvol hv1 hv2 hbra hbx hup hdn hB0 hg P8 R4 B10 B11 hb89 hg9 hB09 ih hw9 hm1 hm2 hmid R9 P9 C11
  go_upto_region 16 with fail
  rw [HW9.out]
  clear HW9 z0 z1 f0 f1 hl10 hl11 hp8I hwr
  have z0 := C10.cell 0
  have z1 := C10.cell 1
  have z2 := C10.cell 2
  have z3 := C10.cell 3
  have z4 := C10.cell 4
  have z5 := C10.cell 5
  have z6 := C10.cell 6
  have z7 := C10.cell 7
  have z8 := C10.cell 8
  have z9 := C10.cell 9
  have z10 := C10.cell 10
  have z11 := C10.cell 11
  have z12 := C10.cell 12
  have z13 := C10.cell 13
  have z14 := C10.cell 14
  have z15 := C10.cell 15
  simp at z0 z1 z2 z3 z4 z5 z6 z7 z8 z9 z10 z11 z12 z13 z14 z15
  clear C10
  go_upto_region 17 with (go_at_call 103; refine (HX.out).mono ?_; rintro e w10 ⟨xk, xp, xa, xwx, xwy, xA, xc, xks, okb, lf1, rfl, hg10, hP10, hT1, hF1⟩)
  clear z0 z1 z2 z3 z4 z5 z6 z7 z8 z9 z10 z11 z12 z13 z14 z15 HX
  obtain ⟨hg9, R9, C11⟩ := HG9.out
  have hgA := grow_trans hg9 hg10
  have R10 := R9.gr hg10 (by omega)
  have D11 := C11.gr hg10 (by omega)
  have hs10 := hg10.size
  have X11 : Bk (w10.alloc (.cells #[.int .i64 xk, .int .i64 xp, .int .i64 xa, .int .i64 xwx, .int .i64 xwy, .slice xA xks.length xc] 49)) w10.heap.size 49 #[.int .i64 xk, .int .i64 xp, .int .i64 xa, .int .i64 xwx, .int .i64 xwy, .slice xA xks.length xc] := bk_last rfl
  have hba : Below w10.heap.size w10 (w10.alloc (.cells #[.int .i64 xk, .int .i64 xp, .int .i64 xa, .int .i64 xwx, .int .i64 xwy, .slice xA xks.length xc] 49)) := (Below.refl _ _).alloc (Nat.le_refl _) _
  generalize w10.alloc (.cells #[.int .i64 xk, .int .i64 xp, .int .i64 xa, .int .i64 xwx, .int .i64 xwy, .slice xA xks.length xc] 49) = w11 at *
  have R11 := R10.keep hba
  have E11 := D11.keep hba
  have hgB := grow_trans hgA (grow_below hba)
  have hgC := grow_trans hg10 (grow_below hba)
  have hP11 := hP10.keep hba
  have hs11 := hba.size
  have hx11 := X11.lt
  generalize hqx : w10.heap.size = qx at *
  cases okb
  · have r0 := R11.cell 0
    have r1 := R11.cell 1
    have r2 := R11.cell 2
    have r3 := R11.cell 3
    have r4' := R11.cell 4
    have r5 := R11.cell 5
    have rf0 := R11.fz 0
    have rf1 := R11.fz 1
    have rf2 := R11.fz 2
    have rf3 := R11.fz 3
    have rf4 := R11.fz 4
    have rf5 := R11.fz 5
    have rl := R11.lt
    have x0 := X11.cell 0
    have x1 := X11.cell 1
    have x2 := X11.cell 2
    have x3 := X11.cell 3
    have x4 := X11.cell 4
    have x5 := X11.cell 5
    simp at x0 x1 x2 x3 x4 x5
    simp at r0 r1 r2 r3 r4' r5
    have HH := Lib.hid (And.intro hgB (And.intro hP11 (hF1 rfl)))
    clear hT1 hF1 R11 R10 R9 C11 D11 E11 X11 hba hgA hgB hgC hP10 hP11 hg9 hg10
    go_wp2_with fail
    refine bodyPost_ret (v := .tuple #[.agg #[.int .i64 xk, .int .i64 xp, .int .i64 xa, .int .i64 xwx, .int .i64 xwy, .slice xA xks.length xc], .bool false]) (by simp [results, Try.results103, go_sem, r0, r1, r2, r3, r4', r5]) rfl ?_
    obtain ⟨f1, f2, f3⟩ := HH.out
    obtain ⟨v1, v2, v3⟩ := HV.out
    refine ⟨xk, xp, xa, xwx, xwy, xA, xc, xks, false, lf1, rfl, ?_, ?_, (fun h => by cases h), fun _ => by omega⟩
    · exact grow_set6 f1 hr4
    · exact far6 f2 (by omega)
  · obtain ⟨t1, t2, t3, t4, t5, t6⟩ := hT1 rfl
    obtain ⟨m1, rfl⟩ : ∃ m : Nat, lf1 = m := ⟨lf1.toNat, by omega⟩
    have HY2 := Lib.hid (HY.out m1 w11 (by omega) hgC hP11)
    have HT1 := Lib.hid (And.intro t1 (And.intro t2 (And.intro t3 (And.intro t5 t6))))
    have HB11 := Lib.hid (And.intro hgB (And.intro hba (And.intro X11 R11)))
    have z0 := E11.cell 0
    have z1 := E11.cell 1
    have z2 := E11.cell 2
    have z3 := E11.cell 3
    have z4 := E11.cell 4
    have z5 := E11.cell 5
    have z6 := E11.cell 6
    have z7 := E11.cell 7
    have z8 := E11.cell 8
    have z9 := E11.cell 9
    have z10 := E11.cell 10
    have z11 := E11.cell 11
    have z12 := E11.cell 12
    have z13 := E11.cell 13
    have z14 := E11.cell 14
    have z15 := E11.cell 15
    simp at z0 z1 z2 z3 z4 z5 z6 z7 z8 z9 z10 z11 z12 z13 z14 z15
    clear t1 t2 t3 t4 t5 t6 hT1 hF1 R11 R10 R9 C11 D11 E11 X11 hba hgA hgB hgC hP10 hP11 hg9 hg10 HY
    go_upto_region 20 with (go_at_call 103; refine (HY2.out).mono ?_; rintro e w12 ⟨yk, yp, ya, ywx, ywy, yA, yc, yks, okb, lf2, rfl, hg12, hP12, hT2, hF2⟩)
    clear z0 z1 z2 z3 z4 z5 z6 z7 z8 z9 z10 z11 z12 z13 z14 z15 HY2
    obtain ⟨hgB, hba, X11, R11⟩ := HB11.out
    have hs12 := hg12.size
    have Y13 : Bk (w12.alloc (.cells #[.int .i64 yk, .int .i64 yp, .int .i64 ya, .int .i64 ywx, .int .i64 ywy, .slice yA yks.length yc] 49)) w12.heap.size 49 #[.int .i64 yk, .int .i64 yp, .int .i64 ya, .int .i64 ywx, .int .i64 ywy, .slice yA yks.length yc] := bk_last rfl
    have hbc : Below w12.heap.size w12 (w12.alloc (.cells #[.int .i64 yk, .int .i64 yp, .int .i64 ya, .int .i64 ywx, .int .i64 ywy, .slice yA yks.length yc] 49)) := (Below.refl _ _).alloc (Nat.le_refl _) _
    generalize w12.alloc (.cells #[.int .i64 yk, .int .i64 yp, .int .i64 ya, .int .i64 ywx, .int .i64 ywy, .slice yA yks.length yc] 49) = w13 at *
    have hs13 := hbc.size
    have X13 := (X11.gr hg12 (by omega)).keep hbc
    have R13 := (R11.gr hg12 (by omega)).keep hbc
    have hy13 := Y13.lt
    have hgD := grow_trans (grow_trans hgB hg12) (grow_below hbc)
    have hP13 := hP12.keep hbc
    generalize hqy : w12.heap.size = qy at *
    have x0 := X13.cell 0
    have x1 := X13.cell 1
    have x2 := X13.cell 2
    have x3 := X13.cell 3
    have x4 := X13.cell 4
    have x5 := X13.cell 5
    simp at x0 x1 x2 x3 x4 x5
    have y0 := Y13.cell 0
    have y1 := Y13.cell 1
    have y2 := Y13.cell 2
    have y3 := Y13.cell 3
    have y4 := Y13.cell 4
    have y5 := Y13.cell 5
    simp at y0 y1 y2 y3 y4 y5
    have r0 := R13.cell 0
    have r1 := R13.cell 1
    have r2 := R13.cell 2
    have r3 := R13.cell 3
    have r4' := R13.cell 4
    have r5 := R13.cell 5
    have rf0 := R13.fz 0
    have rf1 := R13.fz 1
    have rf2 := R13.fz 2
    have rf3 := R13.fz 3
    have rf4 := R13.fz 4
    have rf5 := R13.fz 5
    have rl := R13.lt
    simp at r0 r1 r2 r3 r4' r5
    have HH := Lib.hid (And.intro hgD (And.intro hP13 (And.intro hT2 (And.intro hF2 (And.intro hg12 (And.intro hba hbc))))))
    have MK := buildTwo w13 xk xp xa xwx xwy yk yp ya ywx ywy xA yA xks.length xc yks.length yc
    clear hT2 hF2 hg12 hba hbc hgB hgD hP12 hP13 X11 R11 X13 R13 Y13
    iterate 32 (first | go_values | go_skip | go_step | go_upon)
    refine bodyPost_ret (v := .tuple #[.agg #[.int .i64 3, .int .i64 pn, .int .i64 mid, .int .i64 0, .int .i64 0, .slice (some ⟨w13.heap.size, 0, none⟩) 2 2], .bool okb]) (by simp [results, Try.results103, go_sem, r0, r1, r2, r3, r4', r5, rl]) rfl ?_
    subst hqx hqy
    obtain ⟨hgD, hP13, hT2, hF2, hg12, hba, hbc⟩ := HH.out
    obtain ⟨t1, t2, t3, t5, t6⟩ := HT1.out
    exact grow_end g Pb s sum lo hi n pn r4 mid _ lf2 w w9 w10 w11 w12 w13 _ xk xp xa xwx xwy yk yp ya ywx ywy xA yA xc yc xks yks okb HV.out.1 HBR.out.1 hsz9 hPw hr9 hs10 size6 (fun k h => other6 h) (grow_set6 hgD hr4) (far6 hP13 (by omega)) hba hg12 hbc t1 t2 t3 t5 t6 hT2 (fun h => by have := hF2 h; omega)

end Go.Proofs.Ythmngnfdfelkeaa
