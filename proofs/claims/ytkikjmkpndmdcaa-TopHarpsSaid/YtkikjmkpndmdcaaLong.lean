/-
  What is proved: the contract of long; of Dress at a pattern that is not valid.
-/
import Derived.Test.YtkikjmkpndmdcaaDress
import Derived.Test.YtkikjmkpndmdcaaOpen
namespace Go.Proofs.Ytkikjmkpndmdcaa
open Go.RowKit

def longB (l : List (List Mv)) : Bool := l.any fun x => decide (10 < x.length)
theorem long_hit {l : List (List Mv)} {k : Nat} (hk : k < l.length) (h : 10 < (l.getD k []).length) : longB l = true := by
  unfold longB
  rw [List.any_eq_true]
  refine ⟨l.getD k [], getD_mem [] hk, by simpa using h⟩
theorem long_none {l : List (List Mv)} (h : ∀ k, k < l.length → ¬ 10 < (l.getD k []).length) : longB l = false := by
  unfold longB
  rw [List.any_eq_false]
  intro x hx
  obtain ⟨k, hk, rfl⟩ := List.getElem_of_mem hx
  have := h k hk
  rw [getD_get _ _ hk] at this
  simpa using this

set_option maxRecDepth 100000 in
set_option maxHeartbeats 2000000 in
theorem long_any (f : Flr) (z : FLoc) (w : World) (hp : RowAt w z.A3 ((List.range f.drive.length).map (drCell f z))) (hn : f.drive.length ≤ 20) :
    Calls Try.prog 5 #[.slice z.A3 f.drive.length z.c3] w fun e w' => e = .returned (.bool (longB f.drive)) ∧ w' = w := by
  have HP := Lib.hid hp
  clear hp
  go_enter Try.func5, Try.ntmps5
  go_wp2_with fail
  go_loopw [3] (fun i wr => wr = w ∧ ∃ k : Nat, k ≤ f.drive.length ∧ i = .int .i64 k ∧ Hid (∀ j, j < k → ¬ 10 < (f.drive.getD j []).length)) (fun i _ => f.drive.length - (intOf i).toNat)
  case atStart => exact ⟨rfl, 0, Nat.zero_le _, rfl, fun j hj => absurd hj (by omega)⟩
  case round =>
    obtain ⟨rfl, k, hk, rfl, hall⟩ := hrel
    by_cases hlt : k < f.drive.length
    · have hkI : (k : Int) < f.drive.length := by omega
      obtain ⟨b, off, hA, hb, hc⟩ := RowAt.some_ HP.out (by simp; omega)
      have c0 := hc k (drCell f z k) (by simp [hlt])
      unfold drCell at c0
      rw [hA]
      clear hA hc
      have HLH := Lib.hid (fun h => long_hit hlt h)
      have HMK : Hid (∃ m, (f.drive.getD k []).length = m) := ⟨_, rfl⟩
      obtain ⟨m, hm⟩ := HMK.out
      have HM := Lib.hid hm
      rw [hm] at c0 HLH
      clear hm
      by_cases hl : 10 < m
      · have hlI : (m : Int) > 10 := by omega
        have HR := Lib.hid (HLH.out hl)
        clear hl
        go_wp2_with fail
        go_ret
        exact ⟨ret_bool HR.out.symm, rfl⟩
      · have hlI : ¬ (m : Int) > 10 := by omega
        rw [← HM.out] at hl
        have HR := Lib.hid (And.intro hall hl)
        clear hl hall
        go_wp2_with fail
        go_roundw
        case rel =>
          refine ⟨trivial, k + 1, by omega, by go_num, fun j hj => ?_⟩
          by_cases e : j = k
          · subst e; exact HR.out.2
          · exact HR.out.1.out j (by omega)
        case measure => simp [intOf]; omega
    · obtain rfl : k = f.drive.length := by omega
      have HR := Lib.hid (long_none hall.out)
      clear hall
      go_wp2_with fail
      go_ret
      exact ⟨ret_bool HR.out.symm, rfl⟩

set_option maxRecDepth 100000 in
set_option maxHeartbeats 4000000 in
theorem dress_bad (p : Pat) (A : Option Addr) (c : Nat) (w : World) (hok : p.ok = false) (hn : p.furs.length ≤ 1000) (hL : RowAt w A (furCells p.furs)) :
    Calls Try.prog 6 #[.agg (p.arr A c)] w fun e w' => e = .returned (.tuple #[.agg #[.int .i64 0, .int .i64 0, .int .i64 0, .slice none 0 0], .int .i64 12]) ∧ Below w.heap.size w w' := by
  have HV := Lib.hid (fun (X : World) (h : Below w.heap.size w X) => validPat_any p A c X (hL.below h) (by omega))
  rw [hok] at HV
  unfold Pat.arr at *
  obtain ⟨W, hW⟩ : ∃ W, (w.alloc (.cells #[.int .i64 p.eye, .int .i64 p.rings, .int .i64 p.harps, .int .i64 p.wide, .slice A p.furs.length c] 24)).alloc (.cells #[.int .i64 0, .int .i64 0, .int .i64 0, .slice none 0 0] 30) = W := ⟨_, rfl⟩
  have hbW : Below w.heap.size w W := by rw [← hW]; exact ((Below.refl _ _).alloc (Nat.le_refl _) _).alloc (by simp) _
  have X := (show Bk W w.heap.size 24 #[.int .i64 p.eye, .int .i64 p.rings, .int .i64 p.harps, .int .i64 p.wide, .slice A p.furs.length c] by rw [← hW]; exact (bk_last rfl).alloc _)
  have Y := (show Bk W (w.heap.size + 1) 30 #[.int .i64 0, .int .i64 0, .int .i64 0, .slice none 0 0] by rw [← hW]; exact bk_last (by simp))
  have x0 := X.cell 0
  have x1 := X.cell 1
  have x2 := X.cell 2
  have x3 := X.cell 3
  have x4 := X.cell 4
  simp at x0 x1 x2 x3 x4
  have HW := Lib.hid hW
  clear hW hL hok X
  go_enter Try.func6, Try.ntmps6
  go_upto_region 1 with fail
  rw [HW.out]
  clear HW
  go_wp2_with fail
  refine (HV.out W hbW).mono ?_
  rintro e w1 ⟨rfl, hb1⟩
  clear x0 x1 x2 x3 x4
  replace Y := Y.keep hb1
  have hB1 := hbW.trans (hb1.mono hbW.size)
  have y0 := Y.cell 0
  have y1 := Y.cell 1
  have y2 := Y.cell 2
  have y3 := Y.cell 3
  have z0 := Y.fz 0
  have z1 := Y.fz 1
  have z2 := Y.fz 2
  have z3 := Y.fz 3
  have zl := Y.lt
  simp at y0 y1 y2 y3
  clear hb1 hbW HV Y
  go_wp2_with fail
  refine bodyPost_ret (v := .tuple #[.agg #[.int .i64 0, .int .i64 0, .int .i64 0, .slice none 0 0], .int .i64 12]) (by simp [results, Try.results6, go_sem, y0, y1, y2, y3, zl]) rfl ?_
  exact ⟨rfl, (((hB1.setCell (by simp) _).setCell (by simp) _).setCell (by simp) _).setCell (by simp) _⟩
end Go.Proofs.Ytkikjmkpndmdcaa
