/-
  What is proved: the contracts of gears.validFeed and Rings.
-/
import Derived.Test.YtheifigkclegdaaTeeth
namespace Go.Proofs.Ytheifigkclegdaa
open Go.RowKit

def okFeed (h d k : Int) : Bool := inB h 0 1000000 && inB d 1 1000000 && inB k 1 4096
def ringsR (m h d k : Int) : Int × Int :=
  if okFeed h d k then (if m < 1 then (0, 72) else if h < m then (0, 0) else ((h - m) / d + 1, 0)) else (0, 33)

theorem okFeed_bounds {h d k : Int} (ho : okFeed h d k = true) : 0 ≤ h ∧ h ≤ 1000000 ∧ 1 ≤ d ∧ d ≤ 1000000 ∧ 1 ≤ k ∧ k ≤ 4096 := by
  simp only [okFeed, inB, Bool.and_eq_true, decide_eq_true_eq] at ho
  omega

set_option maxHeartbeats 1000000 in
theorem validFeed_any (h d k : Int) (w : World) :
    Calls Try.prog 81 #[.agg #[.int .i64 h, .int .i64 d, .int .i64 k]] w fun e w' => e = .returned (.bool (okFeed h d k)) ∧ Below w.heap.size w w' := by
  go_enter Try.func81, Try.ntmps81
  go_wp2_with (go_at_call 68; refine (within_any _ _ _ _).mono ?_; rintro e w' ⟨rfl, rfl⟩)
  all_goals
    go_ret
    exact ⟨ret_bool (by simp [okFeed, *]), by go_grown⟩

set_option maxHeartbeats 2000000 in
theorem rings_any (m h d k : Int) (w : World) :
    Calls Try.prog 40 #[.agg #[.int .i64 m], .agg #[.int .i64 h, .int .i64 d, .int .i64 k]] w fun e w' => e = .returned (pairV (ringsR m h d k)) ∧ Below w.heap.size w w' := by
  have hV : Hid (∀ x : Int × Int, ringsR m h d k = x → pairV (ringsR m h d k) = .tuple #[.int .i64 x.1, .int .i64 x.2]) := fun x hx => by rw [hx]; rfl
  by_cases hok : okFeed h d k = true
  · have hbd := okFeed_bounds hok
    have hR : Hid (ringsR m h d k = if m < 1 then (0, 72) else if h < m then (0, 0) else ((h - m) / d + 1, 0)) := by unfold Hid ringsR; rw [if_pos hok]
    go_enter Try.func40, Try.ntmps40
    go_wp2_with fail
    refine (validFeed_any _ _ _ _).mono ?_
    rintro e w1 ⟨rfl, hb1⟩
    have B : Bk w1 w.heap.size 59 #[.int .i64 m] := ((bk_last rfl).alloc _).keep hb1
    have F : Bk w1 (w.heap.size + 1) 57 #[.int .i64 h, .int .i64 d, .int .i64 k] := (bk_last (by simp)).keep hb1
    have hB1 : Below w.heap.size w w1 := (((Below.refl _ _).alloc (Nat.le_refl _) _).alloc (by simp) _).trans (hb1.mono (by simp; omega))
    clear hb1
    have b0 := B.cell 0
    have f0 := F.cell 0
    have f1 := F.cell 1
    simp at b0 f0 f1
    rw [hok]
    by_cases h1 : m < 1
    · go_wp2_with fail
      go_ret2
      exact ⟨by rw [hV.out (0, 72) (by rw [hR.out, if_pos (by omega)])]; rfl, hB1⟩
    · by_cases h2 : h < m
      · go_wp2_with fail
        go_ret2
        exact ⟨by rw [hV.out (0, 0) (by rw [hR.out, if_neg (by omega), if_pos (by omega)])]; rfl, hB1⟩
      · have d1 : (d == 0) = false := by simp; omega
        have q0 : 0 ≤ h - m := by omega
        have q1 : h - m ≤ 1000000 := by omega
        have q2 : 0 ≤ (h - m) / d := Int.ediv_nonneg q0 (by omega)
        have q3 : (h - m) / d ≤ 1000000 := Int.le_trans (Int.ediv_le_self _ q0) q1
        go_wp2_with fail
        go_ret2
        exact ⟨by rw [hV.out ((h - m) / d + 1, 0) (by rw [hR.out, if_neg (by omega), if_neg (by omega)])]; rfl, hB1⟩
  · have hok' : okFeed h d k = false := by simpa using hok
    have hR : Hid (ringsR m h d k = (0, 33)) := by unfold Hid ringsR; rw [if_neg hok]
    go_enter Try.func40, Try.ntmps40
    go_wp2_with fail
    refine (validFeed_any _ _ _ _).mono ?_
    rintro e w1 ⟨rfl, hb1⟩
    have hB1 : Below w.heap.size w w1 := (((Below.refl _ _).alloc (Nat.le_refl _) _).alloc (by simp) _).trans (hb1.mono (by simp; omega))
    clear hb1
    rw [hok']
    go_wp2_with fail
    go_ret2
    exact ⟨by rw [hV.out (0, 33) hR.out]; rfl, hB1⟩

end Go.Proofs.Ytheifigkclegdaa
