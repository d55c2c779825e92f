/-
  What is proved: the contracts of the reference's Lead, Least and Count.
-/
import Derived.Test.YthmngnfdfelkeaaLook
namespace Go.Proofs.Ythmngnfdfelkeaa
open Go.RowKit
attribute [local go_sem ↓] max_int min_int

theorem lookR_lead (s : Stn) : (leadR s).2 = (if (lookR s).2.2 = 0 then (if (lookR s).1 = 0 then 61 else 0) else (lookR s).2.2) ∧ (leadR s).1 = (if (lookR s).2.2 = 0 then (if (lookR s).1 = 0 then [] else (lookR s).2.1) else []) ∧ countR s = ((if (lookR s).2.2 = 0 then (lookR s).1 else 0), (lookR s).2.2) := by
  unfold leadR lookR countR
  by_cases h : s.ok = true
  · simp only [h, if_true]
    by_cases hp : prodM (mosts s) ≤ 200000
    · simp only [hp, if_true]
      by_cases hm : manyN s (prodM (mosts s)) = 0
      · simp [hm]
      · have : ¬ ((manyN s (prodM (mosts s)) : Nat) : Int) = 0 := by omega
        simp [hm]
    · simp [hp]
  · simp [h]

set_option maxRecDepth 100000 in
set_option maxHeartbeats 2000000 in
theorem leadF_any (s : Stn) (z : Loc) (w : World) (hs : StAt w s z) :
    Calls Try.prog 21 #[s.val z] w fun e w' => ∃ v, e = .returned (.tuple #[v, .int .i64 (leadR s).2]) ∧ w'.ownsRow w.heap.size 3 1 v (leadR s).1.length (intCells (leadR s).1) ∧ Below w.heap.size w w' := by
  have HO : Hid (∀ W, StAt W s z → Calls Try.prog 66 #[.agg (s.cells z)] W (LookPost s W)) := fun W h => rlook_any s z W h
  have HX := Lib.hid (lookR_lead s)
  unfold Stn.cells LookPost at HO
  unfold Stn.val Stn.cells
  generalize lookR s = r at *
  generalize leadR s = q at *
  obtain ⟨mm, bl, E⟩ := r
  obtain ⟨ll, le⟩ := q
  simp only at HO HX ⊢
  go_enter Try.func21, Try.ntmps21
  go_wp2_with fail
  refine (HO.out _ (hs.alloc _)).mono ?_
  rintro e w1 ⟨v, rfl, ho, hb1⟩
  have hB : Below w.heap.size w w1 := ((Below.refl _ _).alloc (Nat.le_refl _) _).trans (hb1.mono (by simp))
  obtain ⟨A, c, rfl, _, _, _⟩ := own_form ho
  by_cases he : E = 0
  · subst he
    by_cases hm : mm = 0
    · subst hm
      have e1 := HX.out.1
      have e2 := HX.out.2.1
      simp only [if_true] at e1 e2
      subst e1 e2
      clear HX
      go_wp2_with fail
      go_ret2
      exact ⟨.slice none 0 0, rfl, World.ownsRow_nil _ _ _ _, hB.alloc hB.size _⟩
    · have e1 := HX.out.1
      have e2 := HX.out.2.1
      simp only [if_true, hm, if_false] at e1 e2
      subst e1 e2
      have hq : (mm == 0) = false := by simpa using hm
      have ho2 := ho.alloc (.cells #[.int .i64 mm, .slice A ll.length c] 88)
      clear HX
      go_wp2_with fail
      go_ret2
      exact ⟨_, rfl, own_base ho2 (by simp), hB.alloc hB.size _⟩
  · have hq : (E == 0) = false := by simpa using he
    have e1 := HX.out.1
    have e2 := HX.out.2.1
    simp only [he, if_false] at e1 e2
    subst e1 e2
    clear HX
    go_wp2_with fail
    go_ret2
    exact ⟨.slice none 0 0, rfl, World.ownsRow_nil _ _ _ _, hB.alloc hB.size _⟩

set_option maxRecDepth 100000 in
set_option maxHeartbeats 2000000 in
theorem countF_any (s : Stn) (z : Loc) (w : World) (hs : StAt w s z) :
    Calls Try.prog 23 #[s.val z] w fun e w' => e = .returned (pairV (countR s)) ∧ Below w.heap.size w w' := by
  have HO : Hid (∀ W, StAt W s z → Calls Try.prog 66 #[.agg (s.cells z)] W (LookPost s W)) := fun W h => rlook_any s z W h
  have HX := Lib.hid (lookR_lead s).2.2
  unfold Stn.cells LookPost at HO
  unfold Stn.val Stn.cells pairV
  generalize lookR s = r at *
  generalize countR s = q at *
  obtain ⟨mm, bl, E⟩ := r
  simp only at HO HX ⊢
  have hx := HX.out
  subst hx
  clear HX
  go_enter Try.func23, Try.ntmps23
  go_wp2_with fail
  refine (HO.out _ (hs.alloc _)).mono ?_
  rintro e w1 ⟨v, rfl, ho, hb1⟩
  have hB : Below w.heap.size w w1 := ((Below.refl _ _).alloc (Nat.le_refl _) _).trans (hb1.mono (by simp))
  obtain ⟨A, c, rfl, _, _, _⟩ := own_form ho
  by_cases he : E = 0
  · subst he
    go_wp2_with fail
    go_ret2
    exact ⟨rfl, hB.alloc hB.size _⟩
  · have hq : (E == 0) = false := by simpa using he
    simp only
    go_wp2_with fail
    go_ret2
    exact ⟨rfl, hB.alloc hB.size _⟩

set_option maxRecDepth 100000 in
set_option maxHeartbeats 2000000 in
theorem leastF_any (s : Stn) (z : Loc) (w : World) (hs : StAt w s z) :
    Calls Try.prog 19 #[s.val z] w fun e w' => e = .returned (pairV (leastR s)) ∧ Below w.heap.size w w' := by
  have HO : Hid (∀ W, StAt W s z → Calls Try.prog 21 #[.agg (s.cells z)] W fun e w' => ∃ v, e = .returned (.tuple #[v, .int .i64 (leadR s).2]) ∧ w'.ownsRow W.heap.size 3 1 v (leadR s).1.length (intCells (leadR s).1) ∧ Below W.heap.size W w') := fun W h => leadF_any s z W h
  have hsm := leadR_small s
  have hnz : (leadR s).2 ≠ 0 → (leadR s).1 = [] := by
    unfold leadR
    split
    · split
      · split <;> simp
      · simp
    · simp
  unfold Stn.cells at HO
  unfold Stn.val Stn.cells
  unfold pairV leastR sumL
  generalize leadR s = r at *
  obtain ⟨xs, e0⟩ := r
  simp only at HO hsm hnz ⊢
  go_enter Try.func19, Try.ntmps19
  go_wp2_with fail
  refine (HO.out _ (hs.alloc _)).mono ?_
  rintro e w1 ⟨v, rfl, ho, hb1⟩
  have hB : Below w.heap.size w w1 := ((Below.refl _ _).alloc (Nat.le_refl _) _).trans (hb1.mono (by simp))
  obtain ⟨A1, c1, rfl, _, rl, _⟩ := own_form ho
  by_cases he : e0 = 0
  · subst he
    have HT := Lib.hid (rsum_any A1 c1 xs w1 rl (by omega) (fun x hx => by have := hsm.2 x hx; omega))
    clear hnz
    go_wp2_with (go_at_call 63; refine (HT.out).mono ?_; rintro e w' ⟨rfl, rfl⟩)
    go_ret2
    exact ⟨rfl, hB⟩
  · have hq : (e0 == 0) = false := by simpa using he
    have hx := hnz he
    subst hx
    clear hnz
    go_wp2_with fail
    go_ret2
    exact ⟨rfl, hB⟩

end Go.Proofs.Ythmngnfdfelkeaa
