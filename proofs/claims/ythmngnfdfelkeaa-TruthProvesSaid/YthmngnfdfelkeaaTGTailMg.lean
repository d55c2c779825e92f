/-
  What is proved: the tail of (*prover).grow: from the two boxes on.
-/
import Derived.Test.YthmngnfdfelkeaaTRTail3Mg
import Derived.Test.YthmngnfdfelkeaaMg46
import Derived.Test.YthmngnfdfelkeaaMg35
namespace Go.Proofs.Ythmngnfdfelkeaa
open Go.RowKit
attribute [local go_sem ↓] max_int min_int

/-- All rows of a tree lie from block B on. -/
inductive TrGe (B : Nat) : Tr → Prop
  | mk {k p a : Int} {way : Int × Int} {A : Option Addr} {c : Nat} {kids : List Tr} : (∀ x, A = some x → B ≤ x.block) → (∀ t ∈ kids, TrGe B t) → TrGe B (.mk k p a way A c kids)
theorem TrGe.mono {B B' : Nat} {t : Tr} (h : TrGe B t) (hb : B' ≤ B) : TrGe B' t := by
  induction h with
  | mk h1 _ ih => exact .mk (fun x e => Nat.le_trans hb (h1 x e)) ih
theorem TrAt.move {w w' : World} {q B : Nat} {t : Tr} (h : TrAt w q t) (hg : TrGe B t) (hs : w.heap.size ≤ w'.heap.size) (hb : ∀ b, B ≤ b → b < w.heap.size → w'.heap[b]? = w.heap[b]?) : TrAt w' q t := by
  induction h with
  | mk h1 h2 _ h3 ih =>
    cases hg with
    | mk g1 g2 =>
      refine .mk (fun h0 => ?_) h2 (fun t ht => ih t ht (g2 t ht)) h3
      obtain ⟨b, off, e, r1, r2, r3⟩ := h1 h0
      exact ⟨b, off, e, Nat.lt_of_lt_of_le r1 hs, r2, fun j u hu => (World.cell?_of_block (hb b (g1 _ e) r1)).trans (r3 j u hu)⟩

def proverA (g : Nat) (sum left : Int) : Array Value := #[.pointer (some ⟨g, 0, none⟩), .int .i64 sum, .int .i64 left]
/-- What grow leaves. -/
def GrowPost (g Pb : Nat) (s : Stn) (sum : Int) (lo hi : List Int) (left : Nat) (w : World) (e : Ending) (w' : World) : Prop :=
  ∃ (k p a wx wy : Int) (A : Option Addr) (c : Nat) (kids : List Tr) (okb : Bool) (left' : Int), e = .returned (.tuple #[.agg #[.int .i64 k, .int .i64 p, .int .i64 a, .int .i64 wx, .int .i64 wy, .slice A kids.length c], .bool okb]) ∧
    w.grownBy w' (some Pb) ∧ Bk w' Pb 133 (proverA g sum left') ∧
    (okb = true → TrAt w' Pb (.mk k p a (wx, wy) A c kids) ∧ TrGe w.heap.size (.mk k p a (wx, wy) A c kids) ∧ left' = (left : Int) - sizeT (.mk k p a (wx, wy) A c kids) ∧ 0 ≤ left' ∧ sizeT (.mk k p a (wx, wy) A c kids) + 1 ≤ 2 * volF lo hi 8 ∧ ∀ n, sizeT (.mk k p a (wx, wy) A c kids) ≤ n → ∃ m, checkF s sum n (.mk k p a (wx, wy) A c kids) lo hi = some m) ∧
    (okb = false → left + 1 < 2 * volF lo hi 8)
def GrowAt (g Pb : Nat) (s : Stn) (sum : Int) (w0 : World) (left : Nat) : Prop :=
  ∀ (lo hi : List Int) (w : World), BoxIn s lo hi → Below w0.heap.size w0 w → Bk w Pb 133 (proverA g sum left) → Calls Try.prog 103 #[.pointer (some ⟨Pb, 0, none⟩), .agg (boxA lo hi)] w (GrowPost g Pb s sum lo hi left w)

noncomputable def greg14 : Code := regionOf 14 (Try.f103.body.getD .skip)
noncomputable def gtail14 : Code := restOf 14 (Try.f103.body.getD .skip)

set_option maxRecDepth 1000000 in
set_option maxHeartbeats 4000000 in
theorem greg14_any (lo hi : List Int) (h1 : lo.length = 8) (h2 : hi.length = 8) (Pb r4 q4 pn : Nat) (mid : Int) (w7 : World) (B4 : Bk w7 q4 103 (boxA lo hi)) (Q : Exit → Act → World → Prop)
    (hQ : ∀ c a (d : Option Tmp) (v : Value) w, Q (.panic c) (a.put d v) w → Q (.panic c) a w) (c1 c2 c5 c6 c7 c10 c11 c12 c13 c14 c15 c16 c17 c18 c19 c20 c21 c22 c23 c24 c25 c26 c27 c28 c29 c30 c31 c32 c33 c34 c35 c36 c37 c38 c39 c40 c41 c42 c43 c44 c45 c46 c47 c48 c49 c50 c51 c52 c53 c54 c55 c56 c57 c58 c59 c60 c61 c62 c63 c64 c65 c66 c67 c68 c69 c70 c71 c72 c73 c74 c75 c76 c77 c78 c79 c80 c81 c82 c83 c84 c85 c86 c87 c88 c89 c90 c91 c92 c93 c94 c95 : Value)
    (hn : ∀ (q10 q11 : Nat) (w8 : World), q10 ≠ q11 → w7.heap.size ≤ q10 → w7.heap.size ≤ q11 → Below w7.heap.size w7 w8 → Bk w8 q10 103 (boxA lo hi) → Bk w8 q11 103 (boxA lo hi) → ∀ c63 c64 : Value, Q .normal ⟨#[.pointer (some ⟨Pb, 0, none⟩), c1, c2, .pointer (some ⟨q4, 0, none⟩), .pointer (some ⟨r4, 0, none⟩), c5, c6, c7, .int .i64 (pn : Int), .int .i64 mid, .pointer (some ⟨q10, 0, none⟩), .pointer (some ⟨q11, 0, none⟩), c12, c13, c14, c15, c16, c17, c18, c19, c20, c21, c22, c23, c24, c25, c26, c27, c28, c29, c30, c31, c32, c33, c34, c35, c36, c37, c38, c39, c40, c41, c42, c43, c44, c45, c46, c47, c48, c49, c50, c51, c52, c53, c54, c55, c56, c57, c58, c59, c60, c61, c62, c63, c64, c65, c66, c67, c68, c69, c70, c71, c72, c73, c74, c75, c76, c77, c78, c79, c80, c81, c82, c83, c84, c85, c86, c87, c88, c89, c90, c91, c92, c93, c94, c95], []⟩ w8) :
    Code.wp Try.prog greg14 Q ⟨#[.pointer (some ⟨Pb, 0, none⟩), c1, c2, .pointer (some ⟨q4, 0, none⟩), .pointer (some ⟨r4, 0, none⟩), c5, c6, c7, .int .i64 (pn : Int), .int .i64 mid, c10, c11, c12, c13, c14, c15, c16, c17, c18, c19, c20, c21, c22, c23, c24, c25, c26, c27, c28, c29, c30, c31, c32, c33, c34, c35, c36, c37, c38, c39, c40, c41, c42, c43, c44, c45, c46, c47, c48, c49, c50, c51, c52, c53, c54, c55, c56, c57, c58, c59, c60, c61, c62, c63, c64, c65, c66, c67, c68, c69, c70, c71, c72, c73, c74, c75, c76, c77, c78, c79, c80, c81, c82, c83, c84, c85, c86, c87, c88, c89, c90, c91, c92, c93, c94, c95], []⟩ w7 := by
  conv => arg 2; whnf
  have hz : (#[Value.int .i64 0, .int .i64 0, .int .i64 0, .int .i64 0, .int .i64 0, .int .i64 0, .int .i64 0, .int .i64 0, .int .i64 0, .int .i64 0, .int .i64 0, .int .i64 0, .int .i64 0, .int .i64 0, .int .i64 0, .int .i64 0] : Array Value).size = 16 := rfl
  have hlt := B4.lt
  have A1 : Bk (w7.drew.alloc (.cells #[.int .i64 0, .int .i64 0, .int .i64 0, .int .i64 0, .int .i64 0, .int .i64 0, .int .i64 0, .int .i64 0, .int .i64 0, .int .i64 0, .int .i64 0, .int .i64 0, .int .i64 0, .int .i64 0, .int .i64 0, .int .i64 0] 103)) w7.heap.size 103 #[.int .i64 0, .int .i64 0, .int .i64 0, .int .i64 0, .int .i64 0, .int .i64 0, .int .i64 0, .int .i64 0, .int .i64 0, .int .i64 0, .int .i64 0, .int .i64 0, .int .i64 0, .int .i64 0, .int .i64 0, .int .i64 0] := bk_last rfl
  have A2 : Bk ((w7.drew.alloc (.cells #[.int .i64 0, .int .i64 0, .int .i64 0, .int .i64 0, .int .i64 0, .int .i64 0, .int .i64 0, .int .i64 0, .int .i64 0, .int .i64 0, .int .i64 0, .int .i64 0, .int .i64 0, .int .i64 0, .int .i64 0, .int .i64 0] 103)).alloc (.cells #[.int .i64 0, .int .i64 0, .int .i64 0, .int .i64 0, .int .i64 0, .int .i64 0, .int .i64 0, .int .i64 0, .int .i64 0, .int .i64 0, .int .i64 0, .int .i64 0, .int .i64 0, .int .i64 0, .int .i64 0, .int .i64 0] 103)) (w7.heap.size + 1) 103 #[.int .i64 0, .int .i64 0, .int .i64 0, .int .i64 0, .int .i64 0, .int .i64 0, .int .i64 0, .int .i64 0, .int .i64 0, .int .i64 0, .int .i64 0, .int .i64 0, .int .i64 0, .int .i64 0, .int .i64 0, .int .i64 0] := bk_last (by simp)
  have A3 := A1.alloc (.cells #[.int .i64 0, .int .i64 0, .int .i64 0, .int .i64 0, .int .i64 0, .int .i64 0, .int .i64 0, .int .i64 0, .int .i64 0, .int .i64 0, .int .i64 0, .int .i64 0, .int .i64 0, .int .i64 0, .int .i64 0, .int .i64 0] 103)
  have hb2 : Below w7.heap.size w7 ((w7.drew.alloc (.cells #[.int .i64 0, .int .i64 0, .int .i64 0, .int .i64 0, .int .i64 0, .int .i64 0, .int .i64 0, .int .i64 0, .int .i64 0, .int .i64 0, .int .i64 0, .int .i64 0, .int .i64 0, .int .i64 0, .int .i64 0, .int .i64 0] 103)).alloc (.cells #[.int .i64 0, .int .i64 0, .int .i64 0, .int .i64 0, .int .i64 0, .int .i64 0, .int .i64 0, .int .i64 0, .int .i64 0, .int .i64 0, .int .i64 0, .int .i64 0, .int .i64 0, .int .i64 0, .int .i64 0, .int .i64 0] 103)) := (((Below.refl _ _).drew).alloc (Nat.le_refl _) _).alloc (by simp) _
  have B4' : Bk w7.drew q4 103 (boxA lo hi) := B4
  refine wp_region_held (S := fun w' => Bk w' q4 103 (boxA lo hi)) (by kernel_rfl) ?_
  refine wpAnyH_take (i := 0) (v := .agg (boxA lo hi)) rfl (by kernel_rfl) (by kernel_rfl) (by kernel_rfl) (fun c a w => hQ c a _ _ w) (Or.inl ⟨by rfl, fun w hS => exec_load103 _ _ _ _ rfl q4 lo hi h1 h2 rfl hS⟩) B4' ?_
  refine wpAnyH_take (i := 1) (v := .agg (boxA lo hi)) rfl (by kernel_rfl) (by kernel_rfl) (by kernel_rfl) (fun c a w => hQ c a _ _ w) (Or.inl ⟨by rfl, fun w hS => exec_load103 _ _ _ _ rfl q4 lo hi h1 h2 rfl hS⟩) B4' ?_
  refine wpAnyH_all (rs := [2, 3]) (by kernel_rfl) (by simp) (fun i hi' => ?_)
  simp only [List.mem_cons, List.not_mem_nil, or_false] at hi'
  rcases hi' with rfl | rfl
  · refine wpOp_value rfl (by rfl) (exec_alloc103 _ _ _ w7.heap.size rfl rfl) ⟨B4'.alloc _, ?_⟩
    refine wpAnyH_all (rs := [3]) (by kernel_rfl) (by simp) (fun i hi' => ?_)
    obtain rfl : i = 3 := by simpa using hi'
    refine wpOp_value rfl (by rfl) (exec_alloc103 _ _ _ (w7.heap.size + 1) (by simp) rfl) ⟨(B4'.alloc _).alloc _, ?_⟩
    refine wpAnyH_all (rs := [4]) (by kernel_rfl) (by simp) (fun i hi' => ?_)
    obtain rfl : i = 4 := by simpa using hi'
    refine wpOp_skip rfl (by rfl) (exec_store103 _ _ _ _ _ rfl w7.heap.size _ lo hi h1 h2 rfl rfl A3 hz) ⟨setRow_far ((B4'.alloc _).alloc _) (by omega), ?_⟩
    refine wpAnyH_all (rs := [5]) (by kernel_rfl) (by simp) (fun i hi' => ?_)
    obtain rfl : i = 5 := by simpa using hi'
    refine wpOp_skip rfl (by rfl) (exec_store103 _ _ _ _ _ rfl (w7.heap.size + 1) _ lo hi h1 h2 rfl rfl (setRow_far A2 (by omega)) hz) ⟨setRow_far (setRow_far ((B4'.alloc _).alloc _) (by omega)) (by omega), ?_⟩
    refine wpAnyH_done (by kernel_rfl) ?_ _
    exact hn _ _ _ (by omega) (Nat.le_refl _) (by omega) (below_setRow (below_setRow hb2 (Nat.le_refl _) _) (by omega) _) (setRow_far (Bk_setRow A3 _) (by omega)) (Bk_setRow (setRow_far A2 (by omega)) _) _ _
  · refine wpOp_value rfl (by rfl) (exec_alloc103 _ _ _ w7.heap.size rfl rfl) ⟨B4'.alloc _, ?_⟩
    refine wpAnyH_all (rs := [2]) (by kernel_rfl) (by simp) (fun i hi' => ?_)
    obtain rfl : i = 2 := by simpa using hi'
    refine wpOp_value rfl (by rfl) (exec_alloc103 _ _ _ (w7.heap.size + 1) (by simp) rfl) ⟨(B4'.alloc _).alloc _, ?_⟩
    refine wpAnyH_all (rs := [4]) (by kernel_rfl) (by simp) (fun i hi' => ?_)
    obtain rfl : i = 4 := by simpa using hi'
    refine wpOp_skip rfl (by rfl) (exec_store103 _ _ _ _ _ rfl (w7.heap.size + 1) _ lo hi h1 h2 rfl rfl A2 hz) ⟨setRow_far ((B4'.alloc _).alloc _) (by omega), ?_⟩
    refine wpAnyH_all (rs := [5]) (by kernel_rfl) (by simp) (fun i hi' => ?_)
    obtain rfl : i = 5 := by simpa using hi'
    refine wpOp_skip rfl (by rfl) (exec_store103 _ _ _ _ _ rfl w7.heap.size _ lo hi h1 h2 rfl rfl (setRow_far A3 (by omega)) hz) ⟨setRow_far (setRow_far ((B4'.alloc _).alloc _) (by omega)) (by omega), ?_⟩
    refine wpAnyH_done (by kernel_rfl) ?_ _
    exact hn _ _ _ (by omega) (by omega) (Nat.le_refl _) (below_setRow (below_setRow hb2 (by omega) _) (Nat.le_refl _) _) (setRow_far (Bk_setRow A2 _) (by omega)) (Bk_setRow (setRow_far A3 (by omega)) _) _ _

end Go.Proofs.Ythmngnfdfelkeaa
