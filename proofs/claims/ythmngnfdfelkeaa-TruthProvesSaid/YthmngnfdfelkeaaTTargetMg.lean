/-
  What is proved: plain laws of the number that a tree proves, and the contracts of the reference's Target and MustProve.
-/
import Derived.Test.YthmngnfdfelkeaaMg46
import Derived.Test.YthmngnfdfelkeaaLookMg
import Derived.Test.YthmngnfdfelkeaaMg24
import Derived.Test.YthmngnfdfelkeaaMg31
namespace Go.Proofs.Ythmngnfdfelkeaa
open Go.RowKit
attribute [local go_sem ↓] max_int min_int

/-- The number that is proved. -/
def targetV (s : Stn) : Int := if manyN s (prodM (mosts s)) = 0 then sumL (boxHi s) + 1 else sumL (bestL s (prodM (mosts s)))
def targetR (s : Stn) : Int × Int := if s.ok then if prodM (mosts s) ≤ 200000 then (targetV s, 0) else (0, 2) else (0, 60)

theorem target_le {s : Stn} (h : s.ok = true) (l : List Int) (hl : leadP s l) (hs : stillB s l = true) : targetV s ≤ sumL l := by
  obtain ⟨k, hk, rfl⟩ := lead_rank h hl
  obtain ⟨h1, h2⟩ := many_of _ k hk hs
  rw [targetV, if_neg (by omega)]
  exact h2

theorem vol_take {s : Stn} (h : s.ok = true) : ∀ k, k ≤ s.pockets.length → volF lowZ (highK s s.pockets.length) k = prodM ((mosts s).take k)
  | 0, _ => by simp [volF, prodM]
  | k + 1, hk => by
    have h8 := (stn_ok h).2.2.2.2.1
    have hl : k < (mosts s).length := by rw [mosts_len]; omega
    have e : (mosts s).take (k + 1) = (mosts s).take k ++ [(mosts s).getD k 0] := by
      rw [List.take_add_one, List.getElem?_eq_getElem hl, getD_get _ _ hl]; rfl
    rw [e, prodM_app]
    simp only [volF, prodM, Nat.mul_one]
    rw [vol_take h k (by omega), lowZ_get (by omega), highK_get s (by omega) (by omega), mosts_get h (by omega)]
    congr 1
theorem vol_rest {s : Stn} (h : s.ok = true) : ∀ d, s.pockets.length + d ≤ 8 → volF lowZ (highK s s.pockets.length) (s.pockets.length + d) = volF lowZ (highK s s.pockets.length) s.pockets.length
  | 0, _ => rfl
  | d + 1, hd => by
    have ih := vol_rest h d (by omega)
    show volF lowZ (highK s s.pockets.length) (s.pockets.length + d) * ((highK s s.pockets.length).getD (s.pockets.length + d) 0 - lowZ.getD (s.pockets.length + d) 0 + 1).toNat = _
    rw [ih, lowZ_get (by omega), high_val h (by omega), if_neg (by omega)]
    simp
theorem vol_whole {s : Stn} (h : s.ok = true) : volF lowZ (highK s s.pockets.length) 8 = prodM (mosts s) := by
  have h8 := (stn_ok h).2.2.2.2.1
  have h1 := vol_rest h (8 - s.pockets.length) (by omega)
  rw [show s.pockets.length + (8 - s.pockets.length) = 8 by omega, vol_take h _ (Nat.le_refl _), List.take_of_length_le (by rw [mosts_len]; omega)] at h1
  exact h1

theorem boxHi_small {s : Stn} (h : s.ok = true) : (boxHi s).length = s.pockets.length ∧ s.pockets.length ≤ 8 ∧ ∀ x ∈ boxHi s, 0 ≤ x ∧ x ≤ 255 := by
  obtain ⟨_, _, _, _, h5, _, _, _, hp⟩ := stn_ok h
  refine ⟨by simp [boxHi], h5, fun x hx => ?_⟩
  obtain ⟨p, hp1, rfl⟩ := List.mem_map.1 hx
  have := (hp p hp1).2
  omega
theorem sumHi_bound {s : Stn} (h : s.ok = true) : ∀ n, n ≤ s.pockets.length → 0 ≤ sumF (boxHi s) n ∧ sumF (boxHi s) n ≤ 255 * n
  | 0, _ => by simp [sumF]
  | n + 1, hn => by
    have ih := sumHi_bound h n (by omega)
    obtain ⟨h1, _, h2⟩ := boxHi_small h
    have := h2 _ (getD_mem 0 (show n < (boxHi s).length by omega))
    simp only [sumF]
    omega

/-- The reference's MustProve, of a valid stone. -/
def mustB (s : Stn) : Bool := decide (prodM (mosts s) ≤ 4096)

set_option maxRecDepth 100000 in
set_option maxHeartbeats 2000000 in
theorem rmust_any (s : Stn) (z : Loc) (w : World) (hs : StAt w s z) (hok : s.ok = true) :
    Calls Try.prog 56 #[s.val z] w fun e w' => e = .returned (.bool (mustB s)) ∧ Below w.heap.size w w' := by
  have HL : Hid (∀ W, StAt W s z → s.ok = true → Calls Try.prog 61 #[.agg (s.cells z), .int .i64 4096] W fun e w' => e = .returned (.int .i64 (min (prodM (mosts s) : Int) (((4096 : Nat) : Int) + 1))) ∧ Below W.heap.size W w') := fun W h h2 => rleads_any s z 4096 W h h2 (by omega)
  obtain ⟨X, hs1, hB⟩ := box_stn hs
  have HF : Hid (mustB s = decide (min (prodM (mosts s) : Int) (((4096 : Nat) : Int) + 1) ≤ 4096)) := by
    refine Lib.hid ?_
    unfold mustB
    apply decide_eq_decide.2
    omega
  generalize min (prodM (mosts s) : Int) (((4096 : Nat) : Int) + 1) = n at *
  unfold Stn.cells at HL
  unfold Stn.val Stn.cells
  go_enter Try.func56, Try.ntmps56
  go_wp2_with fail
  generalize w.alloc (.cells _ 28) = V at *
  refine (HL.out _ hs1 hok).mono ?_
  rintro e w1 ⟨rfl, hb1⟩
  go_wp2_with fail
  go_ret
  exact ⟨ret_bool (by first | (rw [HF.out]; done) | (rw [HF.out]; rfl)), hB.trans (hb1.mono hB.size)⟩

set_option maxRecDepth 100000 in
set_option maxHeartbeats 4000000 in
theorem rtarget_any (s : Stn) (z : Loc) (w : World) (hs : StAt w s z) :
    Calls Try.prog 54 #[s.val z] w fun e w' => e = .returned (pairV (targetR s)) ∧ Below w.heap.size w w' := by
  have HO : Hid (∀ W, StAt W s z → Calls Try.prog 66 #[.agg (s.cells z)] W (LookPost s W)) := fun W h => rlook_any s z W h
  have HBX : Hid (∀ W, StAt W s z → s.ok = true → Calls Try.prog 76 #[.agg (s.cells z)] W fun e w' => ∃ A1 A2 c1 c2, e = .returned (.tuple #[.slice A1 s.pockets.length c1, .slice A2 s.pockets.length c2]) ∧ RowAt w' A1 (intCells (boxLo s)) ∧ RowAt w' A2 (intCells (boxHi s)) ∧ Below W.heap.size W w') := fun W h h2 => rbox_any s z W h h2
  obtain ⟨X, hs1, hB⟩ := box_stn hs
  have hX := X.lt
  unfold Stn.cells at HO HBX
  unfold Stn.val Stn.cells pairV
  go_enter Try.func54, Try.ntmps54
  go_wp2_with fail
  generalize w.alloc (.cells _ 28) = V at *
  refine (HO.out _ hs1).mono ?_
  rintro e w1 ⟨v, rfl, ho, hb1⟩
  have hB1 := hB.trans (hb1.mono hB.size)
  have X1 := X.keep hb1
  have hs2 := hs1.below hb1
  clear hs1 hb1 hB X HO
  by_cases hok : s.ok = true
  · by_cases hp : prodM (mosts s) ≤ 200000
    · have hR : lookR s = (((manyN s (prodM (mosts s)) : Nat) : Int), bestL s (prodM (mosts s)), 0) := by simp [lookR, hok, hp]
      have hT : targetR s = (targetV s, 0) := by simp [targetR, hok, hp]
      have hbs := bestL_small hok (prodM (mosts s)) (Nat.le_refl _)
      rw [hR] at ho ⊢
      simp only at ho ⊢
      have HT := Lib.hid hT
      unfold targetV at HT
      clear hR hT
      generalize manyN s (prodM (mosts s)) = M at *
      generalize bestL s (prodM (mosts s)) = l at *
      obtain ⟨A1, c1, rfl, _, rl, _⟩ := own_form ho
      have HHI := Lib.hid (boxHi_small hok)
      have HSB := Lib.hid (sumHi_bound hok s.pockets.length (Nat.le_refl _))
      by_cases hM : M = 0
      · subst hM
        rw [if_pos rfl] at HT
        have HB2 := Lib.hid (fun (W : World) (h : StAt W s z) => HBX.out W h hok)
        clear HBX hbs ho rl hp
        obtain ⟨W, hW⟩ : ∃ W, w1.alloc (.cells #[.int .i64 0, .slice A1 l.length c1] 88) = W := ⟨_, rfl⟩
        have hbw : Below w1.heap.size w1 W := by rw [← hW]; exact (Below.refl _ _).alloc (Nat.le_refl _) _
        have Y1 : Bk W w1.heap.size 88 #[.int .i64 0, .slice A1 l.length c1] := by rw [← hW]; exact bk_last rfl
        have HW := Lib.hid hW
        have X2 := X1.keep hbw
        have hs3 := hs2.below hbw
        obtain ⟨x0, x1, x2, x3, x4, x5, x6, x7⟩ := stn_cell0 X2
        have y0 := Y1.cell 0
        have y1 := Y1.cell 1
        simp at y0 y1
        have HB1 := Lib.hid (And.intro hB1 hbw)
        clear hW X1 X2 Y1 hs2 hB1 hbw hok
        go_upto_region 4 with fail
        simp only [Int.ofNat_zero] at *
        rw [HW.out]
        clear HW
        go_upto_region 7 with (go_at_call 76; refine (HB2.out _ hs3).mono ?_; rintro e w3 ⟨A2, A3, c2, c3, rfl, _, r3, hb3⟩)
        have HS := Lib.hid (rsum_any A3 c3 (boxHi s) w3 r3 (by have := HHI.out; omega) (fun x hx => by have := HHI.out.2.2 x hx; omega))
        rw [HHI.out.1] at HS
        have hwr := IntWalk.i64_in (sumF (boxHi s) s.pockets.length + 1) (by have := HSB.out; have := HHI.out.2.1; omega)
        have hsl : sumL (boxHi s) = sumF (boxHi s) s.pockets.length := by unfold sumL; rw [HHI.out.1]
        have HSL := Lib.hid hsl
        clear x0 x1 x2 x3 x4 x5 x6 x7 y0 y1 HB2 r3 hsl
        generalize sumF (boxHi s) s.pockets.length = S at *
        go_wp2_with (go_at_call 63; refine (HS.out).mono ?_; rintro e w' ⟨rfl, rfl⟩)
        go_ret2
        exact ⟨by first | (rw [HT.out, HSL.out]; done) | (rw [HT.out, HSL.out]; rfl), HB1.out.1.trans ((HB1.out.2.trans (hb3.mono HB1.out.2.size)).mono HB1.out.1.size)⟩
      · rw [if_neg hM] at HT
        have hM1 : 0 < (M : Int) := by omega
        obtain ⟨W, hW⟩ : ∃ W, w1.alloc (.cells #[.int .i64 M, .slice A1 l.length c1] 88) = W := ⟨_, rfl⟩
        have hbw : Below w1.heap.size w1 W := by rw [← hW]; exact (Below.refl _ _).alloc (Nat.le_refl _) _
        have Y1 : Bk W w1.heap.size 88 #[.int .i64 M, .slice A1 l.length c1] := by rw [← hW]; exact bk_last rfl
        have HW := Lib.hid hW
        have y0 := Y1.cell 0
        have y1 := Y1.cell 1
        simp at y0 y1
        have HS := Lib.hid (rsum_any A1 c1 l W (rl.below hbw) (by omega) (fun x hx => by have := hbs.2 x hx; omega))
        have HB1 := Lib.hid (And.intro hB1 hbw)
        clear hW X1 Y1 hs2 hB1 hbw hok HBX hbs ho rl hp hM HHI HSB
        unfold sumL at HT
        go_upto_region 4 with fail
        rw [HW.out]
        clear HW
        go_wp2_with (go_at_call 63; refine (HS.out).mono ?_; rintro e w' ⟨rfl, rfl⟩)
        go_ret2
        exact ⟨by first | (rw [HT.out]; done) | (rw [HT.out]; rfl), HB1.out.1.trans (HB1.out.2.mono HB1.out.1.size)⟩
    · have hR : lookR s = (0, [], 2) := by simp [lookR, hok, hp]
      have HT := Lib.hid (show targetR s = (0, 2) by simp [targetR, hok, hp])
      rw [hR] at ho ⊢
      simp only at ho ⊢
      obtain ⟨A1, c1, rfl, _, rl, _⟩ := own_form ho
      clear hR hp ho
      go_wp2_with fail
      go_ret2
      exact ⟨by first | (rw [HT.out]; done) | (rw [HT.out]; rfl), by repeat (first | exact hB1 | refine Below.setCell ?_ (by simp <;> omega) _ | refine Below.alloc ?_ (by have := hB1.size; simp <;> omega) _)⟩
  · have hR : lookR s = (0, [], 60) := by simp [lookR, hok]
    have HT := Lib.hid (show targetR s = (0, 60) by simp [targetR, hok])
    rw [hR] at ho ⊢
    simp only at ho ⊢
    obtain ⟨A1, c1, rfl, _, rl, _⟩ := own_form ho
    clear hR ho
    go_wp2_with fail
    go_ret2
    exact ⟨by first | (rw [HT.out]; done) | (rw [HT.out]; rfl), by repeat (first | exact hB1 | refine Below.setCell ?_ (by simp <;> omega) _ | refine Below.alloc ?_ (by have := hB1.size; simp <;> omega) _)⟩

end Go.Proofs.Ythmngnfdfelkeaa
