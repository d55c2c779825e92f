/-
  What is proved: the contract of ValidPattern.
-/
import Derived.Test.YtkikjmkpndmdcaaDressV
namespace Go.Proofs.Ytkikjmkpndmdcaa
open Go.RowKit

/-- The first furrow that is bad, or -1. -/
def firstFur (bad : Fur → Bool) (l : List Fur) : Int := match l.findIdx? bad with | some i => i | none => -1
theorem firstFur_hit (bad : Fur → Bool) (l : List Fur) (k : Nat) (hk : k < l.length) (h : ∀ j, j < k → bad (l.getD j fur0) = false) (hb : bad (l.getD k fur0) = true) : firstFur bad l = k := by
  have e : l.findIdx? bad = some k := by
    rw [List.findIdx?_eq_some_iff_getElem]
    refine ⟨hk, by rw [getD_get _ _ hk] at hb; exact hb, fun j hj => ?_⟩
    have := h j hj
    rw [getD_get _ _ (by omega)] at this
    simp [this]
  simp [firstFur, e]
theorem firstFur_none (bad : Fur → Bool) (l : List Fur) (h : ∀ j, j < l.length → bad (l.getD j fur0) = false) : firstFur bad l = -1 := by
  have e : l.findIdx? bad = none := by
    rw [List.findIdx?_eq_none_iff]
    intro m hm
    obtain ⟨j, hj, rfl⟩ := List.getElem_of_mem hm
    have := h j hj
    rw [getD_get _ _ hj] at this
    simp [this]
  simp [firstFur, e]
theorem firstFur_any (bad : Fur → Bool) (l : List Fur) : decide (firstFur bad l ≥ 0) = l.any bad := by
  unfold firstFur
  cases e : l.findIdx? bad with
  | none =>
    rw [List.findIdx?_eq_none_iff] at e
    have h : l.any bad = false := by rw [List.any_eq_false]; intro m hm; simpa using e m hm
    simp [h]
  | some i =>
    rw [List.findIdx?_eq_some_iff_getElem] at e
    obtain ⟨hi, h1, _⟩ := e
    have h : l.any bad = true := by
      rw [List.any_eq_true]
      exact ⟨l[i], List.getElem_mem hi, h1⟩
    simp [h]

set_option maxRecDepth 100000 in
set_option maxHeartbeats 4000000 in
theorem index59_any (p : Pat) (A : Option Addr) (c q : Nat) (w : World) (hL : RowAt w A (furCells p.furs)) (hq : Bk w q 24 (p.arr A c)) (hw : 1 ≤ p.wide ∧ p.wide ≤ 96) (hr : 1 ≤ p.rings ∧ p.rings ≤ 24) (hn : p.furs.length ≤ 1000) :
    Calls Try.prog 59 #[.slice A p.furs.length c, .func (.func 35) #[] #[.pointer (some ⟨q, 0, none⟩)]] w fun e w' => e = .returned (.int .i64 (firstFur (fun x => !furGood p.wide p.rings x) p.furs)) ∧ Below w.heap.size w w' := by
  have HL := Lib.hid hL
  have HB := Lib.hid (fun (x : Fur) (X : World) (h : Below w.heap.size w X) => badFur_any p A c q x X (hq.keep h) hw hr)
  clear hL hq
  have hB0 := Below.refl w.heap.size w
  obtain ⟨bad, hbad⟩ : ∃ bad : Fur → Bool, (fun x => !furGood p.wide p.rings x) = bad := ⟨_, rfl⟩
  have HB2 : Hid (∀ (x : Fur) (X : World), Below w.heap.size w X → Calls Try.prog 35 #[x.val, .pointer (some ⟨q, 0, none⟩)] X fun e w' => e = .returned (.bool (bad x)) ∧ Below X.heap.size X w') := fun x X h => by
    rw [← hbad]
    exact HB.out x X h
  rw [hbad]
  clear hbad HB
  generalize hfl : p.furs = l at *
  clear hfl
  unfold Fur.val at HB2
  go_enter Try.func59, Try.ntmps59
  go_wp2_with fail
  go_loopw [8] (fun i wr => ∃ k : Nat, k ≤ l.length ∧ i = .int .i64 k ∧ Below w.heap.size w wr ∧ Hid (∀ j, j < k → bad (l.getD j fur0) = false)) (fun i _ => l.length - (intOf i).toNat)
  case atStart => exact ⟨0, Nat.zero_le _, rfl, hB0, fun j h => absurd h (by omega)⟩
  case round =>
    obtain ⟨k, hk, rfl, hBr, hall⟩ := hrel
    by_cases hlt : k < l.length
    · obtain ⟨b5, o5, hA, hb5, hc5⟩ := fur_row (HL.out.below hBr) (by omega)
      obtain ⟨c0, c1, c2, c3, c4, c5⟩ := hc5 k hlt
      have HALL := Lib.hid (fun (hg : bad (l.getD k fur0) = false) j (hj : j < k + 1) => show bad (l.getD j fur0) = false by
        rcases Nat.lt_or_ge j k with h | h
        · exact hall.out j h
        · obtain rfl : j = k := by omega
          exact hg)
      have HH := Lib.hid (fun (hg : bad (l.getD k fur0) = true) => firstFur_hit bad l k hlt hall.out hg)
      have HBK := Lib.hid (HB2.out (l.getD k fur0) wr hBr)
      clear hc5 hall hB0
      rw [hA]
      clear hA
      generalize l.getD k fur0 = x at *
      cases hb : bad x
      · have HX := Lib.hid hb
        rw [hb] at HBK
        clear hb
        go_wp2_with (go_at_call 35; refine (HBK.out).mono ?_; rintro e w1 ⟨rfl, hb1⟩)
        have hB1 := hBr.trans (hb1.mono hBr.size)
        go_roundw
        case rel => exact ⟨k + 1, by omega, by go_num, hB1, HALL.out HX.out⟩
        case measure => simp [intOf]; omega
      · have HX := Lib.hid hb
        rw [hb] at HBK
        clear hb
        go_wp2_with (go_at_call 35; refine (HBK.out).mono ?_; rintro e w1 ⟨rfl, hb1⟩)
        have hB1 := hBr.trans (hb1.mono hBr.size)
        go_ret
        exact ⟨ret_int (HH.out HX.out).symm, hB1⟩
    · have : k = l.length := by omega
      subst this
      have HE := Lib.hid (firstFur_none bad l hall.out)
      clear hall
      go_wp2
      go_ret
      exact ⟨ret_int HE.out.symm, hBr⟩

theorem contains34_any (p : Pat) (A : Option Addr) (c q : Nat) (w : World) (hL : RowAt w A (furCells p.furs)) (hq : Bk w q 24 (p.arr A c)) (hw : 1 ≤ p.wide ∧ p.wide ≤ 96) (hr : 1 ≤ p.rings ∧ p.rings ≤ 24) (hn : p.furs.length ≤ 1000) :
    Calls Try.prog 34 #[.slice A p.furs.length c, .func (.func 35) #[] #[.pointer (some ⟨q, 0, none⟩)]] w fun e w' => e = .returned (.bool (p.furs.any (fun x => !furGood p.wide p.rings x))) ∧ Below w.heap.size w w' := by
  have HC := Lib.hid (index59_any p A c q w hL hq hw hr hn)
  have HA := Lib.hid (firstFur_any (fun x => !furGood p.wide p.rings x) p.furs)
  generalize firstFur (fun x => !furGood p.wide p.rings x) p.furs = n at *
  go_enter Try.func34, Try.ntmps34
  go_wp2_with (go_at_call 59; refine (HC.out).mono ?_; rintro e w1 ⟨rfl, hb1⟩)
  go_ret
  exact ⟨ret_bool HA.out, hb1⟩

theorem not_any2 (bad : Fur → Bool) (xs : List Fur) : (!xs.any fun x => !bad x) = xs.all bad := by
  induction xs with
  | nil => rfl
  | cons x xs ih => simp [← ih]

set_option maxRecDepth 100000 in
set_option maxHeartbeats 8000000 in
theorem validPat_any (p : Pat) (A : Option Addr) (c : Nat) (w : World) (hL : RowAt w A (furCells p.furs)) (hn : p.furs.length ≤ 1000) :
    Calls Try.prog 16 #[.agg (p.arr A c)] w fun e w' => e = .returned (.bool p.ok) ∧ Below w.heap.size w w' := by
  obtain ⟨W, hW⟩ : ∃ W, w.alloc (.cells (p.arr A c) 24) = W := ⟨_, rfl⟩
  have hbW : Below w.heap.size w W := by rw [← hW]; exact (Below.refl _ _).alloc (Nat.le_refl _) _
  have Y : Bk W w.heap.size 24 (p.arr A c) := by rw [← hW]; exact bk_last rfl
  have HCT := Lib.hid (fun (hw : 1 ≤ p.wide ∧ p.wide ≤ 96) (hr : 1 ≤ p.rings ∧ p.rings ≤ 24) => contains34_any p A c w.heap.size W (hL.below hbW) Y hw hr hn)
  have HAL := Lib.hid (not_any2 (furGood p.wide p.rings) p.furs)
  unfold Pat.ok
  generalize hal : p.furs.all (furGood p.wide p.rings) = al at *
  generalize hay : (p.furs.any fun x => !furGood p.wide p.rings x) = ay at *
  clear hal hay
  obtain ⟨eye, rings, harps, wide, furs⟩ := p
  simp only [Pat.arr] at *
  have y0 := Y.cell 0
  have y1 := Y.cell 1
  have y2 := Y.cell 2
  have y3 := Y.cell 3
  have y4 := Y.cell 4
  simp at y0 y1 y2 y3 y4
  have HW := Lib.hid hW
  clear hW hL Y
  cases h0 : inB eye 1 16
  · skip
    go_enter Try.func16, Try.ntmps16
    go_upto_region 1 with fail
    rw [HW.out]
    clear HW
    go_wp2_with (first | (go_at_call 33; refine (swithin_any _ _ _ _).mono ?_; rintro e w' ⟨rfl, rfl⟩) | fail)
    go_ret
    exact ⟨ret_bool (by first | rfl | (simp; done) | (simp [*]; done)), hbW⟩
  · cases h1 : inB rings 1 24
    · skip
      go_enter Try.func16, Try.ntmps16
      go_upto_region 1 with fail
      rw [HW.out]
      clear HW
      go_wp2_with (first | (go_at_call 33; refine (swithin_any _ _ _ _).mono ?_; rintro e w' ⟨rfl, rfl⟩) | fail)
      go_ret
      exact ⟨ret_bool (by first | rfl | (simp; done) | (simp [*]; done)), hbW⟩
    · cases h2 : inB harps 1 96
      · skip
        go_enter Try.func16, Try.ntmps16
        go_upto_region 1 with fail
        rw [HW.out]
        clear HW
        go_wp2_with (first | (go_at_call 33; refine (swithin_any _ _ _ _).mono ?_; rintro e w' ⟨rfl, rfl⟩) | fail)
        go_ret
        exact ⟨ret_bool (by first | rfl | (simp; done) | (simp [*]; done)), hbW⟩
      · cases h3 : inB wide 1 96
        · skip
          go_enter Try.func16, Try.ntmps16
          go_upto_region 1 with fail
          rw [HW.out]
          clear HW
          go_wp2_with (first | (go_at_call 33; refine (swithin_any _ _ _ _).mono ?_; rintro e w' ⟨rfl, rfl⟩) | fail)
          go_ret
          exact ⟨ret_bool (by first | rfl | (simp; done) | (simp [*]; done)), hbW⟩
        · have e2 := h2
          have e3 := h3
          simp only [inB, decide_eq_true_eq] at e2 e3
          have hmb : 0 ≤ harps * wide ∧ harps * wide ≤ 96 * 96 := mul_bound (by omega) (by omega) (by omega) (by omega)
          have hwm := IntWalk.i64_in (harps * wide) (by omega)
          cases h4 : inB (harps * wide) 2 96
          · skip
            go_enter Try.func16, Try.ntmps16
            go_upto_region 1 with fail
            rw [HW.out]
            clear HW
            go_wp2_with (first | (go_at_call 33; refine (swithin_any _ _ _ _).mono ?_; rintro e w' ⟨rfl, rfl⟩) | fail)
            go_ret
            exact ⟨ret_bool (by first | rfl | (simp; done) | (simp [*]; done)), hbW⟩
          · have e1 := h1
            simp only [inB, decide_eq_true_eq] at e1
            by_cases h7 : (furs.length : Int) > 16
            · have d7 : decide ((furs.length : Int) > 16) = true := decide_eq_true h7
              go_enter Try.func16, Try.ntmps16
              go_upto_region 1 with fail
              rw [HW.out]
              clear HW
              go_wp2_with (first | (go_at_call 33; refine (swithin_any _ _ _ _).mono ?_; rintro e w' ⟨rfl, rfl⟩) | fail)
              go_ret
              exact ⟨ret_bool (by first | rfl | (simp; done) | (simp [*]; done)), hbW⟩
            · have d7 : decide ((furs.length : Int) > 16) = false := decide_eq_false h7
              have HC2 := Lib.hid (HCT.out e3 e1)
              go_enter Try.func16, Try.ntmps16
              go_upto_region 1 with fail
              rw [HW.out]
              clear HW
              go_wp2_with (first | (go_at_call 33; refine (swithin_any _ _ _ _).mono ?_; rintro e w' ⟨rfl, rfl⟩) | (go_at_call 34; refine (HC2.out).mono ?_; rintro e w2 ⟨rfl, hb2⟩))
              go_ret
              exact ⟨ret_bool (by rw [← HAL.out]; simp; intro _; omega), hbW.trans (hb2.mono hbW.size)⟩

end Go.Proofs.Ytkikjmkpndmdcaa
