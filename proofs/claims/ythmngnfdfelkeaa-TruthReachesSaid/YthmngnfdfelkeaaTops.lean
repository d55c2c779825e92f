/-
  What is proved: the contracts of the law package's small, and of truth.With and truth.Balanced.
-/
import Derived.Test.YthmngnfdfelkeaaLeadT
namespace Go.Proofs.Ythmngnfdfelkeaa
open Go.RowKit
attribute [local go_sem ↓] max_int min_int

def smallB (s : Stn) : Bool := decide (s.f.kinds.length ≤ 300) && decide (s.heights.length ≤ 300) && decide (s.compass.length ≤ 200) && decide (s.pockets.length ≤ 20)

set_option maxRecDepth 100000 in
set_option maxHeartbeats 2000000 in
theorem small_any (s : Stn) (z : Loc) (w : World) (hs : StAt w s z) :
    Calls Try.prog 16 #[s.val z] w fun e w' => e = .returned (.bool (smallB s)) ∧ Below w.heap.size w w' := by
  have n1 := hs.n1
  have n2 := hs.n2
  have n3 := hs.n3
  have n4 := hs.n4
  have hB : Below w.heap.size w (w.alloc (.cells (s.cells z) 28)) := (Below.refl _ _).alloc (Nat.le_refl _) _
  unfold Stn.val Stn.cells at *
  have HS : Hid (∀ b, ((s.f.kinds.length : Int) ≤ 300 ∧ (s.heights.length : Int) ≤ 300 ∧ (s.compass.length : Int) ≤ 200 ∧ (s.pockets.length : Int) ≤ 20 ↔ b = true) → smallB s = b) := fun b h => by
    unfold smallB
    cases b <;> simp at h ⊢ <;> omega
  clear hs
  generalize s.f.kinds.length = a1 at *
  generalize s.heights.length = a2 at *
  generalize s.compass.length = a3 at *
  generalize s.pockets.length = a4 at *
  go_enter Try.func16, Try.ntmps16
  go_wp2
  all_goals
    go_ret
    exact ⟨ret_bool (HS.out _ (by simp; omega)).symm, hB⟩

/-- What With and Balanced give. -/
def withR (s : Stn) (l : List Int) : (Int × Int) × Int :=
  if s.ok then if leadB s l then ((withX s l l.length, withY s l l.length), 0) else ((0, 0), 62) else ((0, 0), 60)
def balR (s : Stn) (l : List Int) : Bool × Int :=
  if s.ok then if leadB s l then (stillB s l, 0) else (false, 62) else (false, 60)

set_option maxRecDepth 100000 in
set_option maxHeartbeats 2000000 in
theorem withT_any (s : Stn) (z : Loc) (A : Option Addr) (c : Nat) (l : List Int) (w : World) (hs : StAt w s z) (hl : RowAt w A (intCells l)) (hn : l.length ≤ 9223372036854775807) :
    Calls Try.prog 43 #[s.val z, .slice A l.length c] w fun e w' => e = .returned (pointV (withR s l)) ∧ Below w.heap.size w w' := by
  have HO : Hid (∀ W, StAt W s z → Calls Try.prog 71 #[.agg (s.cells z)] W (OpenPost s z W)) := fun W h => open_any s z W h
  unfold Stn.cells at HO
  unfold Stn.val Stn.cells
  go_enter Try.func43, Try.ntmps43
  go_wp2_with fail
  refine (HO.out _ ((hs.alloc _).alloc _)).mono ?_
  rintro e w1 ⟨hb1, h⟩
  have hB : Below w.heap.size w w1 := (((Below.refl _ _).alloc (Nat.le_refl _) _).alloc (by simp) _).trans (hb1.mono (by simp; omega))
  have E : Bk w1 (w.heap.size + 1) 43 #[.int .i64 0, .int .i64 0] := (bk_last (by simp)).keep hb1
  have e0 := E.cell 0
  have e1 := E.cell 1
  have e2 := E.fz 0
  have e3 := E.fz 1
  simp at e0 e1
  rcases h with ⟨h1, rfl⟩ | ⟨h1, g, rfl, hg, R⟩
  · have HR := Lib.hid (show withR s l = ((0, 0), 60) by simp [withR, h1])
    go_wp2_with fail
    refine bodyPost_ret (v := pointV ((0, 0), 60)) (by simp [pointV, results, Try.results43, go_sem, e0, e1]) rfl ⟨by first | (rw [HR.out]; done) | (rw [HR.out]; rfl), ?_⟩
    repeat (first | exact hB | refine Below.setCell ?_ (by simp <;> omega) _ | refine Below.alloc ?_ (by simp <;> omega) _ | refine below_drewN ?_ _)
  · cases hf : leadB s l
    · have HR := Lib.hid (show withR s l = ((0, 0), 62) by simp [withR, h1, hf])
      have HF := Lib.hid (fits_any g A c s z _ l w1 R (hs.below hB) (hl.below hB) hn)
      rw [hf] at HF
      clear R h1 hf
      go_wp2_with (go_at_call 93; refine (HF.out).mono ?_; rintro e w2 ⟨rfl, rfl⟩)
      refine bodyPost_ret (v := pointV ((0, 0), 62)) (by simp [pointV, results, Try.results43, go_sem, e0, e1]) rfl ⟨by first | (rw [HR.out]; done) | (rw [HR.out]; rfl), ?_⟩
      repeat (first | exact hB | refine Below.setCell ?_ (by simp <;> omega) _ | refine Below.alloc ?_ (by simp <;> omega) _ | refine below_drewN ?_ _)
    · have HR := Lib.hid (show withR s l = ((withX s l l.length, withY s l l.length), 0) by simp [withR, h1, hf])
      have HF := Lib.hid (fits_any g A c s z _ l w1 R (hs.below hB) (hl.below hB) hn)
      have HW := Lib.hid (with_any g A c s z l w1 R (hs.below hB) h1 (hl.below hB) ((leadB_iff s l).1 hf))
      rw [hf] at HF
      have hEl := E.lt
      clear R h1 hf
      go_wp2_with (first | (go_at_call 93; refine (HF.out).mono ?_; rintro e w2 ⟨rfl, rfl⟩) | (go_at_call 94; refine (HW.out).mono ?_; rintro e w2 ⟨rfl, hb2⟩; have E2 := E.keep hb2; have p0 := E2.cell 0; have p1 := E2.cell 1; have p2 := E2.fz 0; have p3 := E2.fz 1; have hEl2 := E2.lt; simp at p0 p1))
      refine bodyPost_ret (v := pointV ((withX s l l.length, withY s l l.length), 0)) (by simp [pointV, results, Try.results43, go_sem, p0, p1]) rfl ⟨by first | (rw [HR.out]; done) | (rw [HR.out]; rfl), ?_⟩
      have hB2 := hB.trans (hb2.mono hB.size)
      repeat (first | exact hB2 | refine Below.setCell ?_ (by simp <;> omega) _ | refine Below.alloc ?_ (by simp <;> omega) _ | refine below_drewN ?_ _)

end Go.Proofs.Ythmngnfdfelkeaa
