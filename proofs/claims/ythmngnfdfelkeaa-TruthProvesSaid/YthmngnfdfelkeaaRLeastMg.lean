/-
  What is proved: the contracts of the reference's least and apart.
-/
import Derived.Test.YthmngnfdfelkeaaMg31
namespace Go.Proofs.Ythmngnfdfelkeaa
open Go.RowKit
attribute [local go_sem ↓] max_int min_int

theorem byV_comm (w p : Int × Int) : w.1 * p.1 + w.2 * p.2 = byV p w := by
  simp only [byV, Int.mul_comm]

theorem take_int {w : World} {A : Option Addr} {l : List Int} {n : Nat} (h : RowAt w A (intCells (l.take n))) (hl : n ≤ l.length) (hn : 0 < n) :
    ∃ b off, A = some ⟨b, off, none⟩ ∧ b < w.heap.size ∧ ∀ k, k < n → w.cell? ⟨b, off + k, none⟩ = some (.int .i64 (l.getD k 0)) := by
  have hl2 : (l.take n).length = n := by simp; omega
  obtain ⟨b, off, hA, hb, hc⟩ := h.int (by omega)
  refine ⟨b, off, hA, hb, fun k hk => ?_⟩
  rw [hc k (by omega), ← getD_get _ _ (by omega), getD_take l hk]

set_option maxRecDepth 100000 in
set_option maxHeartbeats 4000000 in
theorem rleast_any (s : Stn) (z : Loc) (lo hi : List Int) (way : Int × Int) (A1 A2 : Option Addr) (c1 c2 : Nat) (w : World) (hs : StAt w s z) (hok : s.ok = true) (hw : WayOk way) (hbx : BoxOk lo hi)
    (h1 : RowAt w A1 (intCells (lo.take s.pockets.length))) (h2 : RowAt w A2 (intCells (hi.take s.pockets.length))) :
    Calls Try.prog 78 #[s.val z, .agg #[.int .i64 (momX s s.f.kinds.length), .int .i64 (momY s s.f.kinds.length)], .agg #[.int .i64 way.1, .int .i64 way.2], .slice A1 s.pockets.length c1, .slice A2 s.pockets.length c2] w
      fun e w' => e = .returned (.int .i64 (reachLo s way lo hi s.pockets.length)) ∧ Below w.heap.size w w' := by
  have hpl := (stn_ok hok).2.2.2.2.1
  have hmb := mom_by hok hw
  have hab := fun k (hk : k < s.pockets.length) => arm_by hok hw hk
  have hrb := reach_bound hok hw hbx
  have hbb := hbx.2.2
  have hl1 := hbx.1
  have hl2 := hbx.2.1
  obtain ⟨wx, wy⟩ := way
  simp only at hmb hab hrb ⊢
  have HA : Hid (∀ W, Calls Try.prog 117 #[.agg #[.int .i64 wx, .int .i64 wy], .agg #[.int .i64 (momX s s.f.kinds.length), .int .i64 (momY s s.f.kinds.length)]] W fun e w' => e = .returned (.int .i64 (reachLo s (wx, wy) lo hi 0)) ∧ Below W.heap.size W w') := fun W => by
    have e := byV_comm (wx, wy) (momX s s.f.kinds.length, momY s s.f.kinds.length)
    simp only at e
    rw [show reachLo s (wx, wy) lo hi 0 = byV (momX s s.f.kinds.length, momY s s.f.kinds.length) (wx, wy) from rfl, ← e]
    rw [Int.mul_comm (momX s s.f.kinds.length), Int.mul_comm (momY s s.f.kinds.length)] at hmb
    exact ralong_any _ _ _ _ W (by omega) (by omega) (by omega)
  have HK : Hid (∀ k, k < s.pockets.length → ∀ W, Calls Try.prog 117 #[.agg #[.int .i64 wx, .int .i64 wy], .agg #[.int .i64 (s.pockets.getD k ((0, 0), 0)).1.1, .int .i64 (s.pockets.getD k ((0, 0), 0)).1.2]] W fun e w' => e = .returned (.int .i64 (byV (s.pockets.getD k ((0, 0), 0)).1 (wx, wy))) ∧ Below W.heap.size W w') := fun k hk W => by
    rw [← byV_comm (wx, wy) (s.pockets.getD k ((0, 0), 0)).1]
    have h := hab k hk
    rw [Int.mul_comm _ wx, Int.mul_comm _ wy] at h
    simp only
    exact ralong_any _ _ _ _ W (by omega) (by omega) (by omega)
  have HB : Hid (∀ k, k < s.pockets.length → -200000000 ≤ byV (s.pockets.getD k ((0, 0), 0)).1 (wx, wy) ∧ byV (s.pockets.getD k ((0, 0), 0)).1 (wx, wy) ≤ 200000000) := fun k hk => by
    have h := hab k hk
    simp only [byV]; omega
  have HS : Hid (∀ k, reachLo s (wx, wy) lo hi (k + 1) = reachLo s (wx, wy) lo hi k + min (byV (s.pockets.getD k ((0, 0), 0)).1 (wx, wy) * lo.getD k 0) (byV (s.pockets.getD k ((0, 0), 0)).1 (wx, wy) * hi.getD k 0)) := fun k => rfl
  have HR := Lib.hid (And.intro hpl (And.intro hrb hbb))
  obtain ⟨X, hs1, hB0⟩ := box_stn hs
  have X2 := (X.alloc (.cells #[.int .i64 (momX s s.f.kinds.length), .int .i64 (momY s s.f.kinds.length)] 43)).alloc (.cells #[.int .i64 wx, .int .i64 wy] 43)
  clear hmb hab hrb hbb hpl X hs1 hB0
  unfold Stn.val Stn.cells
  obtain ⟨U, hU⟩ : ∃ U, ((w.alloc (.cells #[.int .i64 s.f.eye, .int .i64 s.f.rings, .int .i64 s.f.sec, .slice z.a1 s.f.kinds.length z.c1, .slice z.a2 s.heights.length z.c2, .slice z.a3 s.compass.length z.c3, .slice z.a4 s.pockets.length z.c4, .int .i64 s.tol] 28)).alloc (.cells #[.int .i64 (momX s s.f.kinds.length), .int .i64 (momY s s.f.kinds.length)] 43)).alloc (.cells #[.int .i64 wx, .int .i64 wy] 43) = U := ⟨_, rfl⟩
  have M : Bk U (w.heap.size + 1) 43 #[.int .i64 (momX s s.f.kinds.length), .int .i64 (momY s s.f.kinds.length)] := by rw [← hU]; exact (bk_last (by simp)).alloc _
  have Y : Bk U (w.heap.size + 1 + 1) 43 #[.int .i64 wx, .int .i64 wy] := by rw [← hU]; exact bk_last (by simp)
  have hB : Below w.heap.size w U := by rw [← hU]; exact (((Below.refl _ _).alloc (Nat.le_refl _) _).alloc (by simp) _).alloc (by simp; omega) _
  rw [hU] at X2
  have HU := Lib.hid hU
  clear hU
  generalize momX s s.f.kinds.length = mx at *
  generalize momY s s.f.kinds.length = my at *
  go_enter Try.func78, Try.ntmps78
  go_upto_region 1 with fail
  rw [HU.out]
  clear HU
  have m0 := M.cell 0
  have m1 := M.cell 1
  have y0 := Y.cell 0
  have y1 := Y.cell 1
  simp at m0 m1 y0 y1
  go_upto_region 3 with (go_at_call 117; refine (HA.out _).mono ?_; rintro e w1 ⟨rfl, hb1⟩)
  replace X2 := X2.keep hb1
  replace Y := Y.keep hb1
  replace hB := hB.trans (hb1.mono hB.size)
  clear HA M m0 m1 y0 y1 hb1
  go_loopw [11, 12] (fun n i wr => ∃ k : Nat, k ≤ s.pockets.length ∧ i = .int .i64 k ∧ n = .int .i64 (reachLo s (wx, wy) lo hi k) ∧ Bk wr w.heap.size 28 (s.cells z) ∧ Bk wr (w.heap.size + 1 + 1) 43 #[.int .i64 wx, .int .i64 wy] ∧ Below w.heap.size w wr) (fun _ i _ => s.pockets.length - (intOf i).toNat)
  case atStart => exact ⟨0, Nat.zero_le _, rfl, rfl, X2, Y, hB⟩
  case round =>
    clear X2 Y hB
    obtain ⟨k, hk, rfl, rfl, X, Y, hB⟩ := hrel
    by_cases hlt : k < s.pockets.length
    · have hkI : (k : Int) < s.pockets.length := by omega
      obtain ⟨b, off, hA, hb, hc⟩ := hs.pockets.pk (by omega)
      obtain ⟨d0, d1, d2⟩ := hc k hlt
      have hpl := HR.out.1
      obtain ⟨b1, o1, hA1, hb1, hc1⟩ := take_int h1 (by omega) (by omega)
      obtain ⟨b2, o2, hA2, hb2, hc2⟩ := take_int h2 (by omega) (by omega)
      have e1 := hc1 k hlt
      have e2 := hc2 k hlt
      obtain ⟨_, hrb, hbb⟩ := HR.out
      have hr1 := (hrb k (by omega)).1
      obtain ⟨bb1, bb2⟩ := hbb k (by omega)
      have q1 := box_by (HB.out k hlt) bb1
      have q2 := box_by (HB.out k hlt) bb2
      have HK2 := Lib.hid (HK.out k hlt)
      have HS2 := Lib.hid (HS.out k)
      obtain ⟨_, _, _, _, _, _, x6, _⟩ := stn_cell0 X
      have y0 := Y.cell 0
      have y1 := Y.cell 1
      simp at y0 y1
      replace d0 := keepc hB d0
      replace d1 := keepc hB d1
      replace e1 := keepc hB e1
      replace e2 := keepc hB e2
      rw [hA] at x6
      subst hA1 hA2
      generalize byV (s.pockets.getD k ((0, 0), 0)).1 (wx, wy) = bv at *
      generalize s.pockets.getD k ((0, 0), 0) = p at *
      obtain ⟨⟨p0, p1⟩, p2⟩ := p
      simp only at d0 d1 HK2
      have hz := hB.size
      have hb1' : b1 < wr.heap.size := by omega
      have hb2' : b2 < wr.heap.size := by omega
      have hbI : b < wr.heap.size := by omega
      have HQ := Lib.hid (And.intro hr1 (And.intro q1 q2))
      clear hc hc1 hc2 d2 hA HK HB HR HS hrb hbb bb1 bb2 hr1 q1 q2 h1 h2
      go_upto_region 5 with fail
      have X6 := fun x : Ext wr => keepc x.bel x6
      have Y0 := fun x : Ext wr => keepc x.bel y0
      have Y1 := fun x : Ext wr => keepc x.bel y1
      have D0 := fun x : Ext wr => keepc x.bel d0
      have D1 := fun x : Ext wr => keepc x.bel d1
      clear x6 y0 y1 d0 d1
      refine wp_region_ext (by kernel_rfl) (by kernel_rfl) ?_
      repeat (go_big_quiet_step ((go_at_call 117; exact ext_of (HK2.out _))))
      refine wpQuiet_nil ?_
      rintro _ ⟨y, rfl⟩
      clear X6 Y0 Y1 D0 D1 HK2
      have hb3 := y.bel
      generalize y.w = w2 at hb3 ⊢
      replace X := X.keep hb3
      replace Y := Y.keep hb3
      replace hB := hB.trans (hb3.mono hB.size)
      replace e1 := keepc hb3 e1
      replace e2 := keepc hb3 e2
      obtain ⟨hr1, q1, q2⟩ := HQ.out
      have hw1 := IntWalk.i64_in (bv * lo.getD k 0) (by omega)
      have hw2 := IntWalk.i64_in (bv * hi.getD k 0) (by omega)
      have hw3 := IntWalk.i64_in (reachLo s (wx, wy) lo hi k + min (bv * lo.getD k 0) (bv * hi.getD k 0)) (by omega)
      clear HQ hr1 q1 q2 hb3 hbI hb1' hb2' hb1 hb2
      have hb1' := World.block_lt_of_cell? w2 _ e1
      have hb2' := World.block_lt_of_cell? w2 _ e2
      have HX := Lib.hid (And.intro X (And.intro Y hB))
      clear X Y hB
      generalize lo.getD k 0 = l1 at *
      generalize hi.getD k 0 = l2 at *
      generalize reachLo s (wx, wy) lo hi k = acc at *
      go_upto_region 6 with fail
      go_region
      go_wp2_with fail
      go_roundw
      case rel => exact ⟨k + 1, by omega, by go_num, by rw [HS2.out], HX.out.1.drew, HX.out.2.1.drew, HX.out.2.2.drew⟩
      case measure => simp [intOf]; omega
    · obtain rfl : k = s.pockets.length := by omega
      go_wp2_with fail
      go_ret
      exact ⟨rfl, hB⟩

set_option maxRecDepth 100000 in
set_option maxHeartbeats 4000000 in
theorem rapart_any (s : Stn) (z : Loc) (lo hi : List Int) (way : Int × Int) (A1 A2 : Option Addr) (c1 c2 : Nat) (w : World) (hs : StAt w s z) (hok : s.ok = true) (hw : WayOk way) (hbx : BoxOk lo hi)
    (h1 : RowAt w A1 (intCells (lo.take s.pockets.length))) (h2 : RowAt w A2 (intCells (hi.take s.pockets.length))) :
    Calls Try.prog 82 #[s.val z, .agg #[.int .i64 (momX s s.f.kinds.length), .int .i64 (momY s s.f.kinds.length)], .agg #[.int .i64 way.1, .int .i64 way.2], .slice A1 s.pockets.length c1, .slice A2 s.pockets.length c2] w
      fun e w' => e = .returned (.bool (apartB s way lo hi)) ∧ Below w.heap.size w w' := by
  have HL : Hid (∀ W, Below w.heap.size w W → Calls Try.prog 78 #[s.val z, .agg #[.int .i64 (momX s s.f.kinds.length), .int .i64 (momY s s.f.kinds.length)], .agg #[.int .i64 way.1, .int .i64 way.2], .slice A1 s.pockets.length c1, .slice A2 s.pockets.length c2] W
      fun e w' => e = .returned (.int .i64 (reachLo s way lo hi s.pockets.length)) ∧ Below W.heap.size W w') := fun W h => rleast_any s z lo hi way A1 A2 c1 c2 W (hs.below h) hok hw hbx (h1.below h) (h2.below h)
  have h5 := (stn_ok hok).2.2.2.2.1
  have t0 := (stn_ok hok).2.2.2.2.2.1
  have t1 := (stn_ok hok).2.2.2.2.2.2.1
  obtain ⟨⟨e1, e2⟩, _⟩ := reach_bound hok hw hbx s.pockets.length (Nat.le_refl _)
  obtain ⟨⟨a1, a2⟩, a3, a4⟩ := hw
  have hm := mul_bound (y := s.tol) (x := (way.1.natAbs : Int) + way.2.natAbs) (a := 1000000000000) (b := 200) t0 t1 (by omega) (by omega)
  have HA : Hid (apartB s way lo hi = decide (s.tol * ((way.1.natAbs : Int) + way.2.natAbs) < reachLo s way lo hi s.pockets.length)) := rfl
  have HX : Hid (∀ W : World, Calls Try.prog 81 #[.int .i64 way.1] W fun e w' => e = .returned (.int .i64 way.1.natAbs) ∧ W = w') := fun W => rsize_any _ W (by omega)
  have HY : Hid (∀ W : World, Calls Try.prog 81 #[.int .i64 way.2] W fun e w' => e = .returned (.int .i64 way.2.natAbs) ∧ W = w') := fun W => rsize_any _ W (by omega)
  obtain ⟨X, hs1, hB0⟩ := box_stn hs
  obtain ⟨wx, wy⟩ := way
  simp only at HL HA HX HY hm a1 a2 a3 a4 ⊢
  have X2 := (X.alloc (.cells #[.int .i64 (momX s s.f.kinds.length), .int .i64 (momY s s.f.kinds.length)] 43)).alloc (.cells #[.int .i64 wx, .int .i64 wy] 43)
  clear X hs1 hB0 h1 h2 hbx
  unfold Stn.val Stn.cells at *
  obtain ⟨U, hU⟩ : ∃ U, ((w.alloc (.cells #[.int .i64 s.f.eye, .int .i64 s.f.rings, .int .i64 s.f.sec, .slice z.a1 s.f.kinds.length z.c1, .slice z.a2 s.heights.length z.c2, .slice z.a3 s.compass.length z.c3, .slice z.a4 s.pockets.length z.c4, .int .i64 s.tol] 28)).alloc (.cells #[.int .i64 (momX s s.f.kinds.length), .int .i64 (momY s s.f.kinds.length)] 43)).alloc (.cells #[.int .i64 wx, .int .i64 wy] 43) = U := ⟨_, rfl⟩
  have M : Bk U (w.heap.size + 1) 43 #[.int .i64 (momX s s.f.kinds.length), .int .i64 (momY s s.f.kinds.length)] := by rw [← hU]; exact (bk_last (by simp)).alloc _
  have Y : Bk U (w.heap.size + 1 + 1) 43 #[.int .i64 wx, .int .i64 wy] := by rw [← hU]; exact bk_last (by simp)
  have hB : Below w.heap.size w U := by rw [← hU]; exact (((Below.refl _ _).alloc (Nat.le_refl _) _).alloc (by simp) _).alloc (by simp; omega) _
  rw [hU] at X2
  have HU := Lib.hid hU
  clear hU
  have HLU : Hid (∀ x : Ext U, Calls Try.prog 78 #[.agg #[.int .i64 s.f.eye, .int .i64 s.f.rings, .int .i64 s.f.sec, .slice z.a1 s.f.kinds.length z.c1, .slice z.a2 s.heights.length z.c2, .slice z.a3 s.compass.length z.c3, .slice z.a4 s.pockets.length z.c4, .int .i64 s.tol], .agg #[.int .i64 (momX s s.f.kinds.length), .int .i64 (momY s s.f.kinds.length)], .agg #[.int .i64 wx, .int .i64 wy], .slice A1 s.pockets.length c1, .slice A2 s.pockets.length c2] x.w
      fun e w' => e = .returned (.int .i64 (reachLo s (wx, wy) lo hi s.pockets.length)) ∧ Below x.w.heap.size x.w w') := fun x => HL.out _ (hB.trans (x.bel.mono hB.size))
  clear HL
  generalize momX s s.f.kinds.length = mx at *
  generalize momY s s.f.kinds.length = my at *
  generalize reachLo s (wx, wy) lo hi s.pockets.length = rl at *
  generalize hap : apartB s (wx, wy) lo hi = ap at *
  clear hap
  go_enter Try.func82, Try.ntmps82
  go_upto_region 1 with fail
  rw [HU.out]
  clear HU
  have m0 := M.cell 0
  have m1 := M.cell 1
  have y0 := Y.cell 0
  have y1 := Y.cell 1
  simp at m0 m1 y0 y1
  obtain ⟨x0, x1, x2, x3, x4, x5, x6, x7⟩ := stn_cell0 X2
  have X0 := fun x : Ext U => keepc x.bel x0
  have X1 := fun x : Ext U => keepc x.bel x1
  have X2 := fun x : Ext U => keepc x.bel x2
  have X3 := fun x : Ext U => keepc x.bel x3
  have X4 := fun x : Ext U => keepc x.bel x4
  have X5 := fun x : Ext U => keepc x.bel x5
  have X6 := fun x : Ext U => keepc x.bel x6
  have X7 := fun x : Ext U => keepc x.bel x7
  have M0 := fun x : Ext U => keepc x.bel m0
  have M1 := fun x : Ext U => keepc x.bel m1
  have Y0 := fun x : Ext U => keepc x.bel y0
  have Y1 := fun x : Ext U => keepc x.bel y1
  clear x0 x1 x2 x3 x4 x5 x6 x7 m0 m1 y0 y1
  refine wp_region_ext (by kernel_rfl) (by kernel_rfl) ?_
  repeat (go_big_quiet_step (fail))
  go_big_quiet_step ((go_at_call 78; exact ext_of (HLU.out _)))
  repeat (go_big_quiet_step (fail))
  go_big_quiet_step ((go_at_call 81; exact ext_same (HX.out _)))
  repeat (go_big_quiet_step (fail))
  go_big_quiet_step ((go_at_call 81; exact ext_same (HY.out _)))
  repeat (go_big_quiet_step (fail))
  refine wpQuiet_nil ?_
  rintro _ ⟨y, rfl⟩
  have hb1 := y.bel
  have hBf := hB.trans (hb1.mono hB.size)
  generalize y.w = w2 at hBf
  go_wp2_with fail
  go_ret
  exact ⟨by rw [HA.out]; rfl, hBf⟩

end Go.Proofs.Ythmngnfdfelkeaa
