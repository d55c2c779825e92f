/-
  Facts that every row asks: the program's knob and layout.
  What is proved: the contracts of the reference's within, point, heights, Valid and Weight.
-/
import Derived.Test.YthmngnfdfelkeaaMg3
import Derived.Test.YthmngnfdfelkeaaMg4
import Derived.Deep.DeepCutAuto
namespace Go.Proofs.Ythmngnfdfelkeaa
open Go.RowKit

theorem Try.own : ownKnob Try.prog.godebug = none := by kernel_rfl
theorem Try.laidOut : laidOutB Try.prog = true := by kernel_rfl

end Go.Proofs.Ythmngnfdfelkeaa
namespace Go.Proofs.Ythmngnfdfelkeaa
open Go.RowKit
attribute [local go_sem ↓] max_int min_int

theorem rwith_any (n lo hi : Int) (w : World) : Calls Try.prog 70 #[.int .i64 n, .int .i64 lo, .int .i64 hi] w fun e w' => e = .returned (.bool (inB n lo hi)) ∧ w = w' := by
  go_enter Try.func70, Try.ntmps70
  go_wp2
  all_goals
    go_ret
    exact ⟨ret_bool (by simp [inB]; try omega), rfl⟩
theorem r1with_any (n lo hi : Int) (w : World) : Calls Try.prog 125 #[.int .i64 n, .int .i64 lo, .int .i64 hi] w fun e w' => e = .returned (.bool (inB n lo hi)) ∧ w = w' := by
  go_enter Try.func125, Try.ntmps125
  go_wp2
  all_goals
    go_ret
    exact ⟨ret_bool (by simp [inB]; try omega), rfl⟩

theorem rpoint_any (x y m : Int) (w : World) (hm : -1000000000000000000 ≤ m ∧ m ≤ 1000000000000000000) : Calls Try.prog 102 #[.agg #[.int .i64 x, .int .i64 y], .int .i64 m] w fun e w' => e = .returned (.bool (inB x (-m) m && inB y (-m) m)) ∧ Below w.heap.size w w' := by
  have HW := fun (n lo hi : Int) (W : World) => rwith_any n lo hi W
  have hB : Below w.heap.size w (w.alloc (.cells #[.int .i64 x, .int .i64 y] 43)) := (Below.refl _ _).alloc (Nat.le_refl _) _
  obtain ⟨a, ha⟩ : ∃ a, inB x (-m) m = a := ⟨_, rfl⟩
  obtain ⟨b, hb⟩ : ∃ b, inB y (-m) m = b := ⟨_, rfl⟩
  rw [ha, hb]
  have HA := Lib.hid ha
  have HB := Lib.hid hb
  clear ha hb
  cases a
  · go_enter Try.func102, Try.ntmps102
    go_wp2_with (go_at_call 70; refine (HW _ _ _ _).mono ?_; rw [HA.out]; rintro e w1 ⟨rfl, rfl⟩)
    go_ret
    exact ⟨rfl, hB⟩
  · go_enter Try.func102, Try.ntmps102
    go_wp2_with (first | (go_at_call 70; refine (HW _ _ _ _).mono ?_; rw [HA.out]; clear HA; rintro e w1 ⟨rfl, rfl⟩) | (go_at_call 70; refine (HW _ _ _ _).mono ?_; rw [HB.out]; rintro e w1 ⟨rfl, rfl⟩))
    go_ret
    exact ⟨by simp, hB⟩

theorem scan_all {p : Int → Bool} {l : List Int} (h : ∀ j, j < l.length → p (l.getD j 0) = true) : l.all p = true := by
  rw [List.all_eq_true]
  intro x hx
  obtain ⟨k, hk, rfl⟩ := List.getElem_of_mem hx
  have := h k hk
  rwa [getD_get _ _ hk] at this
theorem scan_not {p : Int → Bool} {l : List Int} {j : Nat} (hj : j < l.length) (h : p (l.getD j 0) = false) : l.all p = false := by
  rw [List.all_eq_false]
  exact ⟨_, getD_mem 0 hj, fun e => by rw [h] at e; cases e⟩

set_option maxRecDepth 100000 in
set_option maxHeartbeats 2000000 in
theorem rheights_any (f : Fac) (A B : Option Addr) (c d : Nat) (hs : List Int) (w : World) (hL : RowAt w B (intCells hs)) (hn : hs.length ≤ 9223372036854775807) (_hm : f.kinds.length ≤ 9223372036854775807) :
    Calls Try.prog 101 #[f.val A c, .slice B hs.length d] w fun e w' => e = .returned (.bool (hs.length == f.kinds.length && flatB 100000 hs)) ∧ Below w.heap.size w w' := by
  have HW := fun (n lo hi : Int) (W : World) => rwith_any n lo hi W
  unfold Fac.val
  have hB : Below w.heap.size w (w.alloc (.cells #[.int .i64 f.eye, .int .i64 f.rings, .int .i64 f.sec, .slice A f.kinds.length c] 24)) := (Below.refl _ _).alloc (Nat.le_refl _) _
  have hL2 := hL.alloc (.cells #[.int .i64 f.eye, .int .i64 f.rings, .int .i64 f.sec, .slice A f.kinds.length c] 24)
  by_cases he : hs.length = f.kinds.length
  · have hq : ((hs.length : Int) != f.kinds.length) = false := by simp [he]
    have HE : Hid ((hs.length == f.kinds.length) = true) := by simpa [Hid] using he
    rw [HE.out, Bool.true_and]
    clear he
    go_enter Try.func101, Try.ntmps101
    go_upto_region 4 with fail
    generalize w.alloc (.cells _ 24) = V at *
    go_loopw [5] (fun i wr => ∃ k : Nat, k ≤ hs.length ∧ i = .int .i64 k ∧ Hid (∀ j, j < k → inB (hs.getD j 0) (-100000) 100000 = true) ∧ V = wr) (fun i _ => hs.length - (intOf i).toNat)
    case atStart => exact ⟨0, Nat.zero_le _, rfl, fun j hj => by omega, rfl⟩
    case round =>
      obtain ⟨k, hk, rfl, HG, rfl⟩ := hrel
      by_cases hlt : k < hs.length
      · have hkI : (k : Int) < hs.length := by omega
        obtain ⟨b3, o3, rfl, hb3, hc3⟩ := hL2.intD (by omega)
        have d3 := hc3 k hlt
        have HBAD : Hid (inB (hs.getD k 0) (-100000) 100000 = false → flatB 100000 hs = false) := fun h => scan_not hlt h
        have HGK : Hid (inB (hs.getD k 0) (-100000) 100000 = true → ∀ j, j < k + 1 → inB (hs.getD j 0) (-100000) 100000 = true) := fun h j hj => by
          by_cases e : j = k
          · rw [e]; exact h
          · exact HG.out j (by omega)
        clear hc3 HG
        generalize hs.getD k 0 = x at *
        cases hx : inB x (-100000) 100000
        · have HR := Lib.hid (HBAD.out hx)
          have HX := Lib.hid hx
          clear hx HBAD HGK
          go_wp2_with (go_at_call 70; refine (HW _ _ _ _).mono ?_; rw [HX.out]; rintro e w1 ⟨rfl, rfl⟩)
          go_ret
          exact ⟨by rw [HR.out]; rfl, hB⟩
        · have HX := Lib.hid hx
          have HGK2 := Lib.hid (HGK.out hx)
          clear hx HBAD HGK
          go_wp2_with (go_at_call 70; refine (HW _ _ _ _).mono ?_; rw [HX.out]; rintro e w1 ⟨rfl, rfl⟩)
          go_roundw
          case rel => exact ⟨k + 1, by omega, by go_num, HGK2, trivial⟩
          case measure => simp [intOf]; omega
      · obtain rfl : k = hs.length := by omega
        have HR : Hid (flatB 100000 hs = true) := scan_all HG.out
        go_wp2_with fail
        go_ret
        exact ⟨by rw [HR.out]; rfl, hB⟩
  · have hq : ((hs.length : Int) != f.kinds.length) = true := by simp; omega
    have HE : Hid ((hs.length == f.kinds.length) = false) := by simpa [Hid] using he
    rw [HE.out, Bool.false_and]
    clear he
    go_enter Try.func101, Try.ntmps101
    go_wp2_with fail
    go_ret
    exact ⟨rfl, hB⟩

set_option maxRecDepth 100000 in
set_option maxHeartbeats 4000000 in
theorem rvalid_any (f : Fac) (A : Option Addr) (c : Nat) (w : World) (hL : RowAt w A (intCells f.kinds)) (hn : f.kinds.length ≤ 9223372036854775807) :
    Calls Try.prog 100 #[f.val A c] w fun e w' => e = .returned (.bool f.ok) ∧ Below w.heap.size w w' := by
  have HW := fun (n lo hi : Int) (W : World) => r1with_any n lo hi W
  obtain ⟨eye, rings, sec, kinds⟩ := f
  simp only [Fac.val, Fac.ok] at *
  have hB : Below w.heap.size w (w.alloc (.cells #[.int .i64 eye, .int .i64 rings, .int .i64 sec, .slice A kinds.length c] 24)) := (Below.refl _ _).alloc (Nat.le_refl _) _
  have hL2 := hL.alloc (.cells #[.int .i64 eye, .int .i64 rings, .int .i64 sec, .slice A kinds.length c] 24)
  obtain ⟨a1, h1⟩ : ∃ a, inB eye 1 16 = a := ⟨_, rfl⟩
  obtain ⟨a2, h2⟩ : ∃ a, inB rings 1 24 = a := ⟨_, rfl⟩
  obtain ⟨a3, h3⟩ : ∃ a, inB sec 2 96 = a := ⟨_, rfl⟩
  rw [h1, h2, h3]
  have H1 := Lib.hid h1
  have H2 := Lib.hid h2
  have H3 := Lib.hid h3
  cases a1
  · clear h1 h2 h3
    go_enter Try.func100, Try.ntmps100
    go_wp2_with (go_at_call 125; refine (HW _ _ _ _).mono ?_; rw [H1.out]; rintro e w1 ⟨rfl, rfl⟩)
    go_ret
    exact ⟨by simp, hB⟩
  · cases a2
    · clear h1 h2 h3
      go_enter Try.func100, Try.ntmps100
      go_wp2_with (first | (go_at_call 125; refine (HW _ _ _ _).mono ?_; rw [H1.out]; clear H1; rintro e w1 ⟨rfl, rfl⟩) | (go_at_call 125; refine (HW _ _ _ _).mono ?_; rw [H2.out]; rintro e w1 ⟨rfl, rfl⟩))
      go_ret
      exact ⟨by simp, hB⟩
    · cases a3
      · clear h1 h2 h3
        go_enter Try.func100, Try.ntmps100
        go_wp2_with (first | (go_at_call 125; refine (HW _ _ _ _).mono ?_; rw [H1.out]; clear H1; rintro e w1 ⟨rfl, rfl⟩) | (go_at_call 125; refine (HW _ _ _ _).mono ?_; rw [H2.out]; clear H2; rintro e w1 ⟨rfl, rfl⟩) | (go_at_call 125; refine (HW _ _ _ _).mono ?_; rw [H3.out]; rintro e w1 ⟨rfl, rfl⟩))
        go_ret
        exact ⟨by simp, hB⟩
      · have h2' : 1 ≤ rings ∧ rings ≤ 24 := by simpa [inB] using h2
        have h3' : 2 ≤ sec ∧ sec ≤ 96 := by simpa [inB] using h3
        have hm : 0 ≤ rings * sec ∧ rings * sec ≤ 24 * 96 := ⟨Int.mul_nonneg (by omega) (by omega), Int.mul_le_mul (by omega) (by omega) (by omega) (by omega)⟩
        clear h1 h2 h3
        by_cases he : (kinds.length : Int) = rings * sec
        · have hq : ((kinds.length : Int) != rings * sec) = false := by simp [he]
          have HE : Hid (((kinds.length : Int) == rings * sec) = true) := by simpa [Hid] using he
          rw [HE.out]
          clear he
          go_enter Try.func100, Try.ntmps100
          go_upto_region 4 with (first | (go_at_call 125; refine (HW _ _ _ _).mono ?_; rw [H1.out]; clear H1; rintro e w1 ⟨rfl, rfl⟩) | (go_at_call 125; refine (HW _ _ _ _).mono ?_; rw [H2.out]; clear H2; rintro e w1 ⟨rfl, rfl⟩) | (go_at_call 125; refine (HW _ _ _ _).mono ?_; rw [H3.out]; rintro e w1 ⟨rfl, rfl⟩))
          have X : Bk (w.alloc (.cells #[.int .i64 eye, .int .i64 rings, .int .i64 sec, .slice A kinds.length c] 24)) w.heap.size 24 #[.int .i64 eye, .int .i64 rings, .int .i64 sec, .slice A kinds.length c] := bk_last rfl
          have hz : w.heap.size < (w.alloc (.cells #[.int .i64 eye, .int .i64 rings, .int .i64 sec, .slice A kinds.length c] 24)).heap.size := by simp
          generalize w.alloc (.cells _ 24) = V at *
          go_loopw [3] (fun i wr => ∃ k : Nat, k ≤ kinds.length ∧ i = .int .i64 k ∧ Hid (∀ j, j < k → inB (kinds.getD j 0) 0 2 = true) ∧ V = wr) (fun i _ => kinds.length - (intOf i).toNat)
          case atStart => exact ⟨0, Nat.zero_le _, rfl, fun j hj => by omega, rfl⟩
          case round =>
            obtain ⟨k, hk, rfl, HG, rfl⟩ := hrel
            have x3 := X.cell 3
            simp at x3
            by_cases hlt : k < kinds.length
            · have hkI : (k : Int) < kinds.length := by omega
              obtain ⟨b3, o3, rfl, hb3, hc3⟩ := hL2.intD (by omega)
              have d3 := hc3 k hlt
              have HBAD : Hid (inB (kinds.getD k 0) 0 2 = false → (kinds.all fun k => inB k 0 2) = false) := fun h => scan_not hlt h
              have HGK : Hid (inB (kinds.getD k 0) 0 2 = true → ∀ j, j < k + 1 → inB (kinds.getD j 0) 0 2 = true) := fun h j hj => by
                by_cases e : j = k
                · rw [e]; exact h
                · exact HG.out j (by omega)
              clear hc3 HG
              generalize kinds.getD k 0 = x at *
              cases hx : inB x 0 2
              · have HR := Lib.hid (HBAD.out hx)
                have HX := Lib.hid hx
                clear hx HBAD HGK
                go_wp2_with (go_at_call 125; refine (HW _ _ _ _).mono ?_; rw [HX.out]; rintro e w1 ⟨rfl, rfl⟩)
                go_ret
                exact ⟨by rw [HR.out]; rfl, hB⟩
              · have HX := Lib.hid hx
                have HGK2 := Lib.hid (HGK.out hx)
                clear hx HBAD HGK
                go_wp2_with (go_at_call 125; refine (HW _ _ _ _).mono ?_; rw [HX.out]; rintro e w1 ⟨rfl, rfl⟩)
                go_roundw
                case rel => exact ⟨k + 1, by omega, by go_num, HGK2, trivial⟩
                case measure => simp [intOf]; omega
            · obtain rfl : k = kinds.length := by omega
              have HR : Hid ((kinds.all fun k => inB k 0 2) = true) := scan_all HG.out
              go_wp2_with fail
              go_ret
              exact ⟨by rw [HR.out]; rfl, hB⟩
        · have hq : ((kinds.length : Int) != rings * sec) = true := by simp; omega
          have HE : Hid (((kinds.length : Int) == rings * sec) = false) := by simpa [Hid] using he
          rw [HE.out]
          clear he
          go_enter Try.func100, Try.ntmps100
          go_wp2_with (first | (go_at_call 125; refine (HW _ _ _ _).mono ?_; rw [H1.out]; clear H1; rintro e w1 ⟨rfl, rfl⟩) | (go_at_call 125; refine (HW _ _ _ _).mono ?_; rw [H2.out]; clear H2; rintro e w1 ⟨rfl, rfl⟩) | (go_at_call 125; refine (HW _ _ _ _).mono ?_; rw [H3.out]; rintro e w1 ⟨rfl, rfl⟩))
          go_ret
          exact ⟨by simp, hB⟩

end Go.Proofs.Ythmngnfdfelkeaa
