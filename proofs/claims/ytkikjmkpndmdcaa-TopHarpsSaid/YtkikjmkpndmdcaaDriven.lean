/-
  What is proved: the contract of driven.
-/
import Derived.Test.YtkikjmkpndmdcaaCmp
import Derived.Test.YtkikjmkpndmdcaaOver
namespace Go.Proofs.Ytkikjmkpndmdcaa
open Go.RowKit
attribute [local go_sem ↓] max_int min_int

def mv0 : Mv := ⟨0, 0, false⟩
def okAt (l : List Mv) (k : Nat) : Bool :=
  decide (max (l.getD k mv0).out (l.getD k mv0).side ≤ 1) && decide (-1 ≤ min (l.getD k mv0).out (l.getD k mv0).side) && (decide (k = 0) || decide (cmpMv (l.getD (k - 1) mv0) (l.getD k mv0) < 0))
def drivenB (l : List Mv) : Bool := (List.range l.length).all (okAt l) && decide (1 ≤ l.length) && decide (l.length ≤ 3)
theorem driven_bad {l : List Mv} {k : Nat} (hk : k < l.length) (h : okAt l k = false) : drivenB l = false := by
  have : (List.range l.length).all (okAt l) = false := by
    rw [List.all_eq_false]
    exact ⟨k, List.mem_range.2 hk, by simp [h]⟩
  simp [drivenB, this]
theorem driven_good {l : List Mv} (h : ∀ k, k < l.length → okAt l k = true) : drivenB l = (decide (1 ≤ l.length) && decide (l.length ≤ 3)) := by
  have : (List.range l.length).all (okAt l) = true := by
    rw [List.all_eq_true]
    exact fun k hk => h k (List.mem_range.1 hk)
  simp [drivenB, this]
theorem driven_is {l : List Mv} (h : drivenB l = true) : 1 ≤ l.length ∧ l.length ≤ 3 ∧ ∀ m ∈ l, -1 ≤ m.out ∧ m.out ≤ 1 ∧ -1 ≤ m.side ∧ m.side ≤ 1 := by
  simp only [drivenB, Bool.and_eq_true, decide_eq_true_eq, List.all_eq_true] at h
  refine ⟨h.1.2, h.2, fun m hm => ?_⟩
  obtain ⟨k, hk, rfl⟩ := List.getElem_of_mem hm
  have := h.1.1 k (List.mem_range.2 hk)
  simp only [okAt, Bool.and_eq_true, decide_eq_true_eq, getD_get l mv0 hk] at this
  omega

theorem mv_cells {w : World} {A : Option Addr} {l : List Mv} (h : RowAt w A (mvCells l)) (h0 : 0 < l.length) :
    ∃ b off, A = some ⟨b, off, none⟩ ∧ b < w.heap.size ∧ ∀ k, k < l.length → w.cell? ⟨b, off + k * 3, none⟩ = some (.int .i64 (l.getD k mv0).out) ∧ w.cell? ⟨b, off + k * 3 + 1, none⟩ = some (.int .i64 (l.getD k mv0).side) ∧ w.cell? ⟨b, off + k * 3 + 2, none⟩ = some (.bool (l.getD k mv0).cut) := by
  obtain ⟨b, off, h1, h2, h3⟩ := mv_row h h0
  exact ⟨b, off, h1, h2, fun k hk => by rw [getD_get _ _ hk]; exact h3 k hk⟩

set_option maxRecDepth 100000 in
set_option maxHeartbeats 8000000 in
theorem driven_any (A : Option Addr) (c : Nat) (l : List Mv) (w : World) (hL : RowAt w A (mvCells l)) (hn : l.length ≤ 1000) :
    Calls Try.prog 39 #[.slice A l.length c] w fun e w' => e = .returned (.bool (drivenB l)) ∧ Below w.heap.size w w' := by
  have HL := Lib.hid hL
  clear hL
  have hB0 := Below.refl w.heap.size w
  go_enter Try.func39, Try.ntmps39
  go_wp2_with fail
  go_loopw [7] (fun i wr => ∃ k : Nat, k ≤ l.length ∧ i = .int .i64 k ∧ Below w.heap.size w wr ∧ Hid (∀ j, j < k → okAt l j = true)) (fun i _ => l.length - (intOf i).toNat)
  case atStart => exact ⟨0, Nat.zero_le _, rfl, hB0, fun j h => absurd h (by omega)⟩
  case round =>
    obtain ⟨k, hk, rfl, hBr, hall⟩ := hrel
    by_cases hlt : k < l.length
    · have hLr := HL.out.below hBr
      obtain ⟨b5, o5, hA, hb5, hc5⟩ := mv_cells hLr (by omega)
      obtain ⟨c0, c1, c2⟩ := hc5 k hlt
      have HC5 := Lib.hid hc5
      have HA := Lib.hid hA
      have HK : Hid (okAt l k = (decide (max (l.getD k mv0).out (l.getD k mv0).side ≤ 1) && decide (-1 ≤ min (l.getD k mv0).out (l.getD k mv0).side) && (decide (k = 0) || decide (cmpMv (l.getD (k - 1) mv0) (l.getD k mv0) < 0)))) := rfl
      have HALL : Hid (okAt l k = true → ∀ j, j < k + 1 → okAt l j = true) := fun hg j hj => by
        rcases Nat.lt_or_ge j k with h | h
        · exact hall.out j h
        · obtain rfl : j = k := by omega
          exact hg
      have HBAD : Hid (okAt l k = false → drivenB l = false) := fun h => driven_bad hlt h
      clear hc5 hLr hall hB0
      rw [hA]
      clear hA
      generalize hmk : l.getD k mv0 = mk at *
      have HMK := Lib.hid hmk
      clear hmk
      obtain ⟨mo, ms, mc⟩ := mk
      simp only at c0 c1 c2 HK
      obtain ⟨W, hW⟩ : ∃ W, wr.alloc (.cells #[.int .i64 mo, .int .i64 ms, .bool mc] 94) = W := ⟨_, rfl⟩
      have hbW : Below wr.heap.size wr W := by rw [← hW]; exact (Below.refl _ _).alloc (Nat.le_refl _) _
      have Y : Bk W wr.heap.size 94 #[.int .i64 mo, .int .i64 ms, .bool mc] := by rw [← hW]; exact bk_last rfl
      have y0 := Y.cell 0
      have y1 := Y.cell 1
      have y2 := Y.cell 2
      simp at y0 y1 y2
      have HW := Lib.hid hW
      clear hW Y
      have hBW := hBr.trans (hbW.mono hBr.size)
      go_upto_region 4 with fail
      rw [HW.out]
      clear HW c0 c1 c2
      replace y0 := fun x : Ext W => keepc x.bel y0
      replace y1 := fun x : Ext W => keepc x.bel y1
      replace y2 := fun x : Ext W => keepc x.bel y2
      by_cases h1 : max mo ms > 1
      · have p1 : decide (max mo ms > 1) = true := decide_eq_true h1
        have HK1 : Hid (okAt l k = false) := by rw [Hid, HK.out, decide_eq_false (by omega)]; rfl
        clear h1
        refine wp_region_ext (by kernel_rfl) (by kernel_rfl) ?_
        repeat (go_big_quiet_step (fail))
        refine wpQuiet_nil ?_
        rintro _ ⟨y, rfl⟩
        clear y0 y1 y2 p1
        have hb2 := y.bel
        generalize y.w = w2 at hb2 ⊢
        have hB2 := hBW.trans (hb2.mono hBW.size)
        clear hb2
        go_wp2_with fail
        go_ret
        exact ⟨ret_bool (HBAD.out HK1.out).symm, hB2⟩
      · have p1 : decide (max mo ms > 1) = false := decide_eq_false h1
        by_cases h2 : min mo ms < -1
        · have p2 : decide (min mo ms < -1) = true := decide_eq_true h2
          have HK1 : Hid (okAt l k = false) := by rw [Hid, HK.out, decide_eq_false (show ¬ -1 ≤ min mo ms by omega)]; simp
          clear h1 h2
          refine wp_region_ext (by kernel_rfl) (by kernel_rfl) ?_
          repeat (go_big_quiet_step (fail))
          refine wpQuiet_nil ?_
          rintro _ ⟨y, rfl⟩
          clear y0 y1 y2 p1 p2
          have hb2 := y.bel
          generalize y.w = w2 at hb2 ⊢
          have hB2 := hBW.trans (hb2.mono hBW.size)
          clear hb2
          go_wp2_with fail
          go_ret
          exact ⟨ret_bool (HBAD.out HK1.out).symm, hB2⟩
        · have p2 : decide (min mo ms < -1) = false := decide_eq_false h2
          have HK2 : Hid (okAt l k = (decide (k = 0) || decide (cmpMv (l.getD (k - 1) mv0) ⟨mo, ms, mc⟩ < 0))) := by rw [Hid, HK.out, decide_eq_true (show max mo ms ≤ 1 by omega), decide_eq_true (show -1 ≤ min mo ms by omega)]; rfl
          clear h1 h2 HK
          by_cases h3 : k = 0
          · have p3 : decide (0 < k) = false := decide_eq_false (by omega)
            have HK1 : Hid (okAt l k = true) := by rw [Hid, HK2.out, decide_eq_true h3]; rfl
            have h3' : k < 1 := by omega
            clear h3
            refine wp_region_ext (by kernel_rfl) (by kernel_rfl) ?_
            repeat (go_big_quiet_step (fail))
            refine wpQuiet_nil ?_
            rintro _ ⟨y, rfl⟩
            clear y0 y1 y2 p1 p2 p3
            have hb2 := y.bel
            generalize y.w = w2 at hb2 ⊢
            have hB2 := hBW.trans (hb2.mono hBW.size)
            clear hb2
            go_wp2_with fail
            go_roundw
            case rel => exact ⟨k + 1, by omega, by go_num, hB2, HALL.out HK1.out⟩
            case measure => simp [intOf]; omega
          · have p3 : decide (0 < k) = true := decide_eq_true (by omega)
            obtain ⟨d0, d1, d2⟩ := HC5.out (k - 1) (by omega)
            replace d0 := keepc hbW d0
            replace d1 := keepc hbW d1
            replace d2 := keepc hbW d2
            have hwk := IntWalk.i64_in ((k : Int) - 1) (by omega)
            have t1 : ((k : Int) - 1).toNat = k - 1 := by omega
            have q1 : (k : Int) - 1 < l.length := by omega
            have q2 : 0 ≤ (k : Int) - 1 := by omega
            have q3 : 1 ≤ k := by omega
            have HK3 : Hid (okAt l k = decide (cmpMv (l.getD (k - 1) mv0) ⟨mo, ms, mc⟩ < 0)) := by rw [Hid, HK2.out, decide_eq_false h3]; rfl
            clear h3 HK2
            generalize l.getD (k - 1) mv0 = mj at *
            obtain ⟨jo, js, jc⟩ := mj
            simp only at d0 d1 d2
            have HCM := Lib.hid (fun x : Ext W => compare_any ⟨jo, js, jc⟩ ⟨mo, ms, mc⟩ x.w)
            unfold mvV at HCM
            replace d0 := fun x : Ext W => keepc x.bel d0
            replace d1 := fun x : Ext W => keepc x.bel d1
            replace d2 := fun x : Ext W => keepc x.bel d2
            generalize cmpMv ⟨jo, js, jc⟩ ⟨mo, ms, mc⟩ = cv at *
            by_cases h4 : cv ≥ 0
            · have p4 : decide (cv ≥ 0) = true := decide_eq_true h4
              have HK1 : Hid (okAt l k = false) := by rw [Hid, HK3.out, decide_eq_false (by omega)]
              clear h4
              refine wp_region_ext (by kernel_rfl) (by kernel_rfl) ?_
              repeat (go_big_quiet_step ((go_at_call 64; exact ext_of (HCM.out _))))
              refine wpQuiet_nil ?_
              rintro _ ⟨y, rfl⟩
              clear y0 y1 y2 p1 p2 p3 p4 d0 d1 d2 hwk t1 HCM
              have hb2 := y.bel
              generalize y.w = w2 at hb2 ⊢
              have hB2 := hBW.trans (hb2.mono hBW.size)
              clear hb2
              go_wp2_with fail
              go_ret
              exact ⟨ret_bool (HBAD.out HK1.out).symm, hB2⟩
            · have p4 : decide (cv ≥ 0) = false := decide_eq_false h4
              have HK1 : Hid (okAt l k = true) := by rw [Hid, HK3.out, decide_eq_true (by omega)]
              clear h4
              refine wp_region_ext (by kernel_rfl) (by kernel_rfl) ?_
              repeat (go_big_quiet_step ((go_at_call 64; exact ext_of (HCM.out _))))
              refine wpQuiet_nil ?_
              rintro _ ⟨y, rfl⟩
              clear y0 y1 y2 p1 p2 p3 p4 d0 d1 d2 hwk t1 HCM
              have hb2 := y.bel
              generalize y.w = w2 at hb2 ⊢
              have hB2 := hBW.trans (hb2.mono hBW.size)
              clear hb2
              go_wp2_with fail
              go_roundw
              case rel => exact ⟨k + 1, by omega, by go_num, hB2, HALL.out HK1.out⟩
              case measure => simp [intOf]; omega
    · have : k = l.length := by omega
      subst this
      have HG := Lib.hid (driven_good (fun j hj => hall.out j hj))
      by_cases h1 : 1 ≤ l.length
      · go_wp2_with fail
        go_ret
        exact ⟨ret_bool (by rw [HG.out]; first | rfl | (simp <;> omega) | grind), hBr⟩
      · go_wp2_with fail
        go_ret
        exact ⟨ret_bool (by rw [HG.out]; first | rfl | (simp <;> omega) | grind), hBr⟩

end Go.Proofs.Ytkikjmkpndmdcaa
