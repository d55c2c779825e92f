/-
  What is proved: the contract of truth.Balanced.
-/
import Derived.Test.YthmngnfdfelkeaaTops
namespace Go.Proofs.Ythmngnfdfelkeaa
open Go.RowKit
attribute [local go_sem ↓] max_int min_int

theorem withR_bal (s : Stn) (l : List Int) : ((withR s l).2 = (balR s l).2) ∧ ((balR s l).2 = 0 → 0 ≤ s.tol ∧ s.tol ≤ 1000000000000 ∧ (balR s l).1 = flatB s.tol [(withR s l).1.1, (withR s l).1.2]) ∧ ((balR s l).2 ≠ 0 → (balR s l).1 = false) := by
  unfold withR balR
  by_cases h : s.ok = true
  · simp only [h, if_true]
    obtain ⟨_, _, _, _, _, t0, t1, _⟩ := stn_ok h
    by_cases h2 : leadB s l = true
    · simp [h2, stillB, flatB, t0, t1]
    · simp [h2]
  · simp [h]

theorem bal_any (s : Stn) (z : Loc) (A : Option Addr) (c : Nat) (l : List Int) (w : World) (hs : StAt w s z) (hl : RowAt w A (intCells l)) (hn : l.length ≤ 9223372036854775807) :
    Calls Try.prog 33 #[s.val z, .slice A l.length c] w fun e w' => e = .returned (.tuple #[.bool (balR s l).1, .int .i64 (balR s l).2]) ∧ Below w.heap.size w w' := by
  have HW : Hid (∀ W, Below w.heap.size w W → Calls Try.prog 43 #[.agg (s.cells z), .slice A l.length c] W fun e w' => e = .returned (pointV (withR s l)) ∧ Below W.heap.size W w') := fun W h => withT_any s z A c l W (hs.below h) (hl.below h) hn
  have HX := Lib.hid (withR_bal s l)
  have hB : Below w.heap.size w (w.alloc (.cells (s.cells z) 28)) := (Below.refl _ _).alloc (Nat.le_refl _) _
  have X : Bk (w.alloc (.cells (s.cells z) 28)) w.heap.size 28 (s.cells z) := bk_last rfl
  clear hs hl hn
  unfold pointV at HW
  generalize withR s l = q at *
  generalize balR s l = r at *
  obtain ⟨⟨x, y⟩, e0⟩ := q
  obtain ⟨b, e1⟩ := r
  unfold Stn.cells at *
  unfold Stn.val Stn.cells
  simp only at HX HW ⊢
  obtain rfl : e0 = e1 := HX.out.1
  go_enter Try.func33, Try.ntmps33
  go_upto_region 1 with fail
  generalize w.alloc (.cells _ 28) = V at *
  have x0 := X.cell 0
  have x1 := X.cell 1
  have x2 := X.cell 2
  have x3 := X.cell 3
  have x4 := X.cell 4
  have x5 := X.cell 5
  have x6 := X.cell 6
  have x7 := X.cell 7
  simp at x0 x1 x2 x3 x4 x5 x6 x7
  go_wp2_with fail
  refine (HW.out _ hB).mono ?_
  rintro e w2 ⟨rfl, hb2⟩
  have hB2 := hB.trans (hb2.mono hB.size)
  have X2 := X.keep hb2
  have y7 := X2.cell 7
  have yl := X2.lt
  simp at y7
  clear x0 x1 x2 x3 x4 x5 x6 x7
  by_cases he : e0 = 0
  · subst he
    obtain ⟨t0, t1, hb⟩ := HX.out.2.1 rfl
    try simp only at hb
    have hrow : RowAt ((w2.alloc (.cells #[.int .i64 x, .int .i64 y] 43)).alloc (.cells #[.int .i64 x, .int .i64 y] 3)) (some ⟨w2.heap.size + 1, 0, none⟩) (intCells [x, y]) := row_two (w2.alloc (.cells #[.int .i64 x, .int .i64 y] 43)) x y 3 (w2.heap.size + 1) (by simp)
    have HF := Lib.hid (flat_any (some ⟨w2.heap.size + 1, 0, none⟩) 2 s.tol [x, y] _ hrow (by simp) t0 (by omega))
    clear HX hrow
    rw [← hb] at HF
    clear hb
    go_wp2_with (go_at_call 67; refine (HF.out).mono ?_; rintro e w3 ⟨rfl, hb3⟩)
    go_ret2
    exact ⟨rfl, ((hB2.alloc hB2.size _).alloc (by have := hB2.size; simp; omega) _).trans (hb3.mono (by have := hB2.size; simp; omega))⟩
  · have hb := HX.out.2.2 he
    try simp only at hb
    subst hb
    have hq : (e0 == 0) = false := by simpa using he
    clear HX
    go_wp2_with fail
    go_ret2
    exact ⟨rfl, hB2.alloc hB2.size _⟩

end Go.Proofs.Ythmngnfdfelkeaa
