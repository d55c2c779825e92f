/-
  What is proved: the contract of driven.
  What is proved: the contract of open.
-/
import Derived.Test.YteihcodicfoiaaaGreatMw4
import Derived.Test.YteihcodicfoiaaaGreatMw3
import Derived.RegionTactic
import Derived.BigRegion
namespace Go.Proofs.YteihcodicfoiaaaGreat
open Go.RowKit
attribute [local go_sem ↓] max_int min_int

def mv0 : Mv := ⟨0, 0, false⟩
def okAt (l : List Mv) (k : Nat) : Bool :=
  decide (max (l.getD k mv0).out (l.getD k mv0).side ≤ 1) && decide (-1 ≤ min (l.getD k mv0).out (l.getD k mv0).side) && (decide (k = 0) || decide (cmpMv (l.getD (k - 1) mv0) (l.getD k mv0) < 0))
def drivenB (l : List Mv) : Bool := (List.range l.length).all (okAt l) && decide (1 ≤ l.length) && decide (l.length ≤ 3)
theorem driven_bad {l : List Mv} {k : Nat} (hk : k < l.length) (h : okAt l k = false) : drivenB l = false := by
  have : (List.range l.length).all (okAt l) = false := by
    rw [List.all_eq_false]
    exact ⟨k, List.mem_range.2 hk, by simp [h]⟩
  simp [drivenB, this]
theorem driven_good {l : List Mv} (h : ∀ k, k < l.length → okAt l k = true) : drivenB l = (decide (1 ≤ l.length) && decide (l.length ≤ 3)) := by
  have : (List.range l.length).all (okAt l) = true := by
    rw [List.all_eq_true]
    exact fun k hk => h k (List.mem_range.1 hk)
  simp [drivenB, this]
theorem driven_is {l : List Mv} (h : drivenB l = true) : 1 ≤ l.length ∧ l.length ≤ 3 ∧ ∀ m ∈ l, -1 ≤ m.out ∧ m.out ≤ 1 ∧ -1 ≤ m.side ∧ m.side ≤ 1 := by
  simp only [drivenB, Bool.and_eq_true, decide_eq_true_eq, List.all_eq_true] at h
  refine ⟨h.1.2, h.2, fun m hm => ?_⟩
  obtain ⟨k, hk, rfl⟩ := List.getElem_of_mem hm
  have := h.1.1 k (List.mem_range.2 hk)
  simp only [okAt, Bool.and_eq_true, decide_eq_true_eq, getD_get l mv0 hk] at this
  omega

theorem mv_cells {w : World} {A : Option Addr} {l : List Mv} (h : RowAt w A (mvCells l)) (h0 : 0 < l.length) :
    ∃ b off, A = some ⟨b, off, none⟩ ∧ b < w.heap.size ∧ ∀ k, k < l.length → w.cell? ⟨b, off + k * 3, none⟩ = some (.int .i64 (l.getD k mv0).out) ∧ w.cell? ⟨b, off + k * 3 + 1, none⟩ = some (.int .i64 (l.getD k mv0).side) ∧ w.cell? ⟨b, off + k * 3 + 2, none⟩ = some (.bool (l.getD k mv0).cut) := by
  obtain ⟨b, off, h1, h2, h3⟩ := mv_row h h0
  exact ⟨b, off, h1, h2, fun k hk => by rw [getD_get _ _ hk]; exact h3 k hk⟩

set_option maxRecDepth 100000 in
set_option maxHeartbeats 8000000 in
theorem driven_any (A : Option Addr) (c : Nat) (l : List Mv) (w : World) (hL : RowAt w A (mvCells l)) (hn : l.length ≤ 1000) :
    Calls Tryz.prog 121 #[.slice A l.length c] w fun e w' => e = .returned (.bool (drivenB l)) ∧ Below w.heap.size w w' := by
  have HL := Lib.hid hL
  clear hL
  have hB0 := Below.refl w.heap.size w
  go_enter Tryz.func121, Tryz.ntmps121
  go_wp2_with fail
  go_loopw [7] (fun i wr => ∃ k : Nat, k ≤ l.length ∧ i = .int .i64 k ∧ Below w.heap.size w wr ∧ Hid (∀ j, j < k → okAt l j = true)) (fun i _ => l.length - (intOf i).toNat)
  case atStart => exact ⟨0, Nat.zero_le _, rfl, hB0, fun j h => absurd h (by omega)⟩
  case round =>
    obtain ⟨k, hk, rfl, hBr, hall⟩ := hrel
    by_cases hlt : k < l.length
    · have hLr := HL.out.below hBr
      obtain ⟨b5, o5, hA, hb5, hc5⟩ := mv_cells hLr (by omega)
      obtain ⟨c0, c1, c2⟩ := hc5 k hlt
      have HC5 := Lib.hid hc5
      have HA := Lib.hid hA
      have HK : Hid (okAt l k = (decide (max (l.getD k mv0).out (l.getD k mv0).side ≤ 1) && decide (-1 ≤ min (l.getD k mv0).out (l.getD k mv0).side) && (decide (k = 0) || decide (cmpMv (l.getD (k - 1) mv0) (l.getD k mv0) < 0)))) := rfl
      have HALL : Hid (okAt l k = true → ∀ j, j < k + 1 → okAt l j = true) := fun hg j hj => by
        rcases Nat.lt_or_ge j k with h | h
        · exact hall.out j h
        · obtain rfl : j = k := by omega
          exact hg
      have HBAD : Hid (okAt l k = false → drivenB l = false) := fun h => driven_bad hlt h
      clear hc5 hLr hall hB0
      rw [hA]
      clear hA
      generalize hmk : l.getD k mv0 = mk at *
      have HMK := Lib.hid hmk
      clear hmk
      obtain ⟨mo, ms, mc⟩ := mk
      simp only at c0 c1 c2 HK
      obtain ⟨W, hW⟩ : ∃ W, wr.alloc (.cells #[.int .i64 mo, .int .i64 ms, .bool mc] 247) = W := ⟨_, rfl⟩
      have hbW : Below wr.heap.size wr W := by rw [← hW]; exact (Below.refl _ _).alloc (Nat.le_refl _) _
      have Y : Bk W wr.heap.size 247 #[.int .i64 mo, .int .i64 ms, .bool mc] := by rw [← hW]; exact bk_last rfl
      have y0 := Y.cell 0
      have y1 := Y.cell 1
      have y2 := Y.cell 2
      simp at y0 y1 y2
      have HW := Lib.hid hW
      clear hW Y
      have hBW := hBr.trans (hbW.mono hBr.size)
      go_upto_region 4 with fail
      rw [HW.out]
      clear HW c0 c1 c2
      replace y0 := fun x : Ext W => keepc x.bel y0
      replace y1 := fun x : Ext W => keepc x.bel y1
      replace y2 := fun x : Ext W => keepc x.bel y2
      by_cases h1 : max mo ms > 1
      · have p1 : decide (max mo ms > 1) = true := decide_eq_true h1
        have HK1 : Hid (okAt l k = false) := by rw [Hid, HK.out, decide_eq_false (by omega)]; rfl
        clear h1
        refine wp_region_ext (by kernel_rfl) (by kernel_rfl) ?_
        repeat (go_big_quiet_step (fail))
        refine wpQuiet_nil ?_
        rintro _ ⟨y, rfl⟩
        clear y0 y1 y2 p1
        have hb2 := y.bel
        generalize y.w = w2 at hb2 ⊢
        have hB2 := hBW.trans (hb2.mono hBW.size)
        clear hb2
        go_wp2_with fail
        go_ret
        exact ⟨ret_bool (HBAD.out HK1.out).symm, hB2⟩
      · have p1 : decide (max mo ms > 1) = false := decide_eq_false h1
        by_cases h2 : min mo ms < -1
        · have p2 : decide (min mo ms < -1) = true := decide_eq_true h2
          have HK1 : Hid (okAt l k = false) := by rw [Hid, HK.out, decide_eq_false (show ¬ -1 ≤ min mo ms by omega)]; simp
          clear h1 h2
          refine wp_region_ext (by kernel_rfl) (by kernel_rfl) ?_
          repeat (go_big_quiet_step (fail))
          refine wpQuiet_nil ?_
          rintro _ ⟨y, rfl⟩
          clear y0 y1 y2 p1 p2
          have hb2 := y.bel
          generalize y.w = w2 at hb2 ⊢
          have hB2 := hBW.trans (hb2.mono hBW.size)
          clear hb2
          go_wp2_with fail
          go_ret
          exact ⟨ret_bool (HBAD.out HK1.out).symm, hB2⟩
        · have p2 : decide (min mo ms < -1) = false := decide_eq_false h2
          have HK2 : Hid (okAt l k = (decide (k = 0) || decide (cmpMv (l.getD (k - 1) mv0) ⟨mo, ms, mc⟩ < 0))) := by rw [Hid, HK.out, decide_eq_true (show max mo ms ≤ 1 by omega), decide_eq_true (show -1 ≤ min mo ms by omega)]; rfl
          clear h1 h2 HK
          by_cases h3 : k = 0
          · have p3 : decide (0 < k) = false := decide_eq_false (by omega)
            have HK1 : Hid (okAt l k = true) := by rw [Hid, HK2.out, decide_eq_true h3]; rfl
            have h3' : k < 1 := by omega
            clear h3
            refine wp_region_ext (by kernel_rfl) (by kernel_rfl) ?_
            repeat (go_big_quiet_step (fail))
            refine wpQuiet_nil ?_
            rintro _ ⟨y, rfl⟩
            clear y0 y1 y2 p1 p2 p3
            have hb2 := y.bel
            generalize y.w = w2 at hb2 ⊢
            have hB2 := hBW.trans (hb2.mono hBW.size)
            clear hb2
            go_wp2_with fail
            go_roundw
            case rel => exact ⟨k + 1, by omega, by go_num, hB2, HALL.out HK1.out⟩
            case measure => simp [intOf]; omega
          · have p3 : decide (0 < k) = true := decide_eq_true (by omega)
            obtain ⟨d0, d1, d2⟩ := HC5.out (k - 1) (by omega)
            replace d0 := keepc hbW d0
            replace d1 := keepc hbW d1
            replace d2 := keepc hbW d2
            have hwk := IntWalk.i64_in ((k : Int) - 1) (by omega)
            have t1 : ((k : Int) - 1).toNat = k - 1 := by omega
            have q1 : (k : Int) - 1 < l.length := by omega
            have q2 : 0 ≤ (k : Int) - 1 := by omega
            have q3 : 1 ≤ k := by omega
            have HK3 : Hid (okAt l k = decide (cmpMv (l.getD (k - 1) mv0) ⟨mo, ms, mc⟩ < 0)) := by rw [Hid, HK2.out, decide_eq_false h3]; rfl
            clear h3 HK2
            generalize l.getD (k - 1) mv0 = mj at *
            obtain ⟨jo, js, jc⟩ := mj
            simp only at d0 d1 d2
            have HCM := Lib.hid (fun x : Ext W => compare_any ⟨jo, js, jc⟩ ⟨mo, ms, mc⟩ x.w)
            unfold mvV at HCM
            replace d0 := fun x : Ext W => keepc x.bel d0
            replace d1 := fun x : Ext W => keepc x.bel d1
            replace d2 := fun x : Ext W => keepc x.bel d2
            generalize cmpMv ⟨jo, js, jc⟩ ⟨mo, ms, mc⟩ = cv at *
            by_cases h4 : cv ≥ 0
            · have p4 : decide (cv ≥ 0) = true := decide_eq_true h4
              have HK1 : Hid (okAt l k = false) := by rw [Hid, HK3.out, decide_eq_false (by omega)]
              clear h4
              refine wp_region_ext (by kernel_rfl) (by kernel_rfl) ?_
              repeat (go_big_quiet_step ((go_at_call 168; exact ext_of (HCM.out _))))
              refine wpQuiet_nil ?_
              rintro _ ⟨y, rfl⟩
              clear y0 y1 y2 p1 p2 p3 p4 d0 d1 d2 hwk t1 HCM
              have hb2 := y.bel
              generalize y.w = w2 at hb2 ⊢
              have hB2 := hBW.trans (hb2.mono hBW.size)
              clear hb2
              go_wp2_with fail
              go_ret
              exact ⟨ret_bool (HBAD.out HK1.out).symm, hB2⟩
            · have p4 : decide (cv ≥ 0) = false := decide_eq_false h4
              have HK1 : Hid (okAt l k = true) := by rw [Hid, HK3.out, decide_eq_true (by omega)]
              clear h4
              refine wp_region_ext (by kernel_rfl) (by kernel_rfl) ?_
              repeat (go_big_quiet_step ((go_at_call 168; exact ext_of (HCM.out _))))
              refine wpQuiet_nil ?_
              rintro _ ⟨y, rfl⟩
              clear y0 y1 y2 p1 p2 p3 p4 d0 d1 d2 hwk t1 HCM
              have hb2 := y.bel
              generalize y.w = w2 at hb2 ⊢
              have hB2 := hBW.trans (hb2.mono hBW.size)
              clear hb2
              go_wp2_with fail
              go_roundw
              case rel => exact ⟨k + 1, by omega, by go_num, hB2, HALL.out HK1.out⟩
              case measure => simp [intOf]; omega
    · have : k = l.length := by omega
      subst this
      have HG := Lib.hid (driven_good (fun j hj => hall.out j hj))
      by_cases h1 : 1 ≤ l.length
      · go_wp2_with fail
        go_ret
        exact ⟨ret_bool (by rw [HG.out]; first | rfl | (simp <;> omega) | grind), hBr⟩
      · go_wp2_with fail
        go_ret
        exact ⟨ret_bool (by rw [HG.out]; first | rfl | (simp <;> omega) | grind), hBr⟩

end Go.Proofs.YteihcodicfoiaaaGreat
namespace Go.Proofs.YteihcodicfoiaaaGreat
open Go.RowKit
attribute [local go_sem ↓] max_int min_int

def Flr.pr (f : Flr) (z : FLoc) : Value :=
  .agg #[.int .i64 f.eye, .int .i64 f.R, .int .i64 f.S, .slice z.A1 f.bed.length z.c1, .int .i64 f.eye, .int .i64 f.R, .int .i64 f.S, .slice z.A2 f.run.length z.c2, .slice z.A3 f.drive.length z.c3]
/-- A pair in memory. -/
structure PrAt (w : World) (f : Flr) (z : FLoc) : Prop where
  bed : RowAt w z.A1 (intCells f.bed)
  run : RowAt w z.A2 (intCells f.run)
  drv : RowAt w z.A3 ((List.range f.drive.length).map (drCell f z))
  row : ∀ i, i < f.drive.length → RowAt w (z.dr.getD i (none, 0)).1 (mvCells (f.drive.getD i []))
theorem PrAt.below {w w' : World} {f : Flr} {z : FLoc} (h : PrAt w f z) (hb : Below w.heap.size w w') : PrAt w' f z :=
  ⟨h.bed.below hb, h.run.below hb, h.drv.below hb, fun i hi => (h.row i hi).below hb⟩
structure Flr.Pre (f : Flr) : Prop where
  e0 : 1 ≤ f.eye
  e1 : f.eye ≤ 16
  r0 : 1 ≤ f.R
  r1 : f.R ≤ 4
  s0 : 2 ≤ f.S
  s1 : f.S ≤ 8
  bl : f.bed.length = f.R * f.S
  rl : f.run.length = f.R * f.S
  bk : ∀ x ∈ f.bed, 0 ≤ x ∧ x ≤ 2
  rk : ∀ x ∈ f.run, 0 ≤ x ∧ x ≤ 2
  dn : f.drive.length ≤ 20
  dm : ∀ l ∈ f.drive, l.length ≤ 10
def drvOk (f : Flr) : Bool := decide (f.drive.length = 9) && f.drive.all drivenB
theorem Flr.Pre.ok {f : Flr} (h : f.Pre) (hd : drvOk f = true) : f.Ok := by
  simp only [drvOk, Bool.and_eq_true, decide_eq_true_eq, List.all_eq_true] at hd
  exact ⟨h.r0, h.r1, h.s0, h.s1, h.bl, h.rl, h.bk, h.rk, hd.1, fun l hl => driven_is (hd.2 l hl)⟩
theorem PrAt.dcell {w : World} {f : Flr} {z : FLoc} (h : PrAt w f z) (h0 : 0 < f.drive.length) : ∃ b off, z.A3 = some ⟨b, off, none⟩ ∧ b < w.heap.size ∧ ∀ k, k < f.drive.length → w.cell? ⟨b, off + k, none⟩ = some (drCell f z k) := by
  obtain ⟨b, off, h1, h2, h3⟩ := h.drv (by simpa using h0)
  exact ⟨b, off, h1, h2, fun k hk => h3 k _ (by simp [hk])⟩
def drCells (f : Flr) (z : FLoc) (k : Nat) : Array Value := (f.head z ++ (List.range 9).map (fun i => if i < k then drCell f z i else .slice none 0 0)).toArray
theorem drCells_set (f : Flr) (z : FLoc) (k : Nat) (hk : k < 9) : (drCells f z k).setIfInBounds (11 + k) (drCell f z k) = drCells f z (k + 1) := by
  have : k = 0 ∨ k = 1 ∨ k = 2 ∨ k = 3 ∨ k = 4 ∨ k = 5 ∨ k = 6 ∨ k = 7 ∨ k = 8 := by omega
  rcases this with rfl | rfl | rfl | rfl | rfl | rfl | rfl | rfl | rfl <;> rfl
theorem drCells_all (f : Flr) (z : FLoc) : drCells f z 9 = f.cells z := rfl

def OpenP (f : Flr) (z : FLoc) (w : World) (e : Ending) (w' : World) : Prop :=
  Below w.heap.size w w' ∧ ((drvOk f = true ∧ ∃ b, w.heap.size ≤ b ∧ e = .returned (.tuple #[.pointer (some ⟨b, 0, none⟩), .int .i64 0]) ∧ FlAt w' b f z) ∨ (drvOk f = false ∧ e = .returned (.tuple #[.pointer none, .int .i64 20])))

theorem fac_of {eye : Int} {R S : Nat} {l : List Int} (h0 : 1 ≤ eye ∧ eye ≤ 16) (h1 : 1 ≤ R ∧ R ≤ 4) (h2 : 2 ≤ S ∧ S ≤ 8) (h3 : l.length = R * S) (h4 : ∀ x ∈ l, 0 ≤ x ∧ x ≤ 2) : (Fac.mk eye R S l).ok = true := by
  simp only [Fac.ok, inB, Bool.and_eq_true, decide_eq_true_eq, beq_iff_eq, List.all_eq_true]
  exact ⟨⟨⟨⟨h0, by omega⟩, by omega⟩, by rw [h3]; simp⟩, h4⟩

set_option maxRecDepth 100000 in
set_option maxHeartbeats 8000000 in
theorem open_any (f : Flr) (z : FLoc) (w : World) (hp : PrAt w f z) (hpre : f.Pre) : Calls Tryz.prog 78 #[f.pr z] w (OpenP f z w) := by
  have hlen : f.bed.length ≤ 32 ∧ f.run.length ≤ 32 := by
    have := hpre.bl
    have := hpre.rl
    have : f.R * f.S ≤ 4 * 8 := Nat.mul_le_mul hpre.r1 hpre.s1
    omega
  have HV1 := Lib.hid (fun (X : World) (h : Below w.heap.size w X) => valid_any ⟨f.eye, f.R, f.S, f.bed⟩ z.A1 z.c1 X (hp.bed.below h) (by simp only; omega))
  have HV2 := Lib.hid (fun (X : World) (h : Below w.heap.size w X) => valid_any ⟨f.eye, f.R, f.S, f.run⟩ z.A2 z.c2 X (hp.run.below h) (by simp only; omega))
  rw [fac_of ⟨hpre.e0, hpre.e1⟩ ⟨hpre.r0, hpre.r1⟩ ⟨hpre.s0, hpre.s1⟩ hpre.bl hpre.bk] at HV1
  rw [fac_of ⟨hpre.e0, hpre.e1⟩ ⟨hpre.r0, hpre.r1⟩ ⟨hpre.s0, hpre.s1⟩ hpre.rl hpre.rk] at HV2
  unfold Fac.val at HV1 HV2
  simp only at HV1 HV2
  have HST := Lib.hid (fun (b : Nat) (X : World) (hf : FlAt X b f z) (hok : f.Ok) => states_any b f z X hf hok)
  have HP := Lib.hid hp
  have HPRE := Lib.hid hpre
  unfold Flr.pr
  obtain ⟨W, hW⟩ : ∃ W, w.alloc (.cells #[.int .i64 f.eye, .int .i64 f.R, .int .i64 f.S, .slice z.A1 f.bed.length z.c1, .int .i64 f.eye, .int .i64 f.R, .int .i64 f.S, .slice z.A2 f.run.length z.c2, .slice z.A3 f.drive.length z.c3] 27) = W := ⟨_, rfl⟩
  have hbW : Below w.heap.size w W := by rw [← hW]; exact (Below.refl _ _).alloc (Nat.le_refl _) _
  have X := (show Bk W w.heap.size 27 #[.int .i64 f.eye, .int .i64 f.R, .int .i64 f.S, .slice z.A1 f.bed.length z.c1, .int .i64 f.eye, .int .i64 f.R, .int .i64 f.S, .slice z.A2 f.run.length z.c2, .slice z.A3 f.drive.length z.c3] by rw [← hW]; exact bk_last rfl)
  have hsW : W.heap.size = w.heap.size + 1 := by rw [← hW]; simp
  have x0 := X.cell 0
  have x1 := X.cell 1
  have x2 := X.cell 2
  have x3 := X.cell 3
  have x4 := X.cell 4
  have x5 := X.cell 5
  have x6 := X.cell 6
  have x7 := X.cell 7
  have x8 := X.cell 8
  simp at x0 x1 x2 x3 x4 x5 x6 x7 x8
  have HW := Lib.hid hW
  clear hW hp hpre
  have hlt := X.lt
  go_enter Tryz.func78, Tryz.ntmps78
  go_upto_region 1 with fail
  rw [HW.out]
  clear HW
  go_cut [4, 5] from 9 to 12 (fun vb vr wx => ∃ p q : Nat, vb = .pointer (some ⟨p, 0, none⟩) ∧ vr = .pointer (some ⟨q, 0, none⟩) ∧ Bk wx w.heap.size 27 #[.int .i64 f.eye, .int .i64 f.R, .int .i64 f.S, .slice z.A1 f.bed.length z.c1, .int .i64 f.eye, .int .i64 f.R, .int .i64 f.S, .slice z.A2 f.run.length z.c2, .slice z.A3 f.drive.length z.c3] ∧
    Bk wx p 24 #[.int .i64 f.eye, .int .i64 f.R, .int .i64 f.S, .slice z.A1 f.bed.length z.c1] ∧ Bk wx q 24 #[.int .i64 f.eye, .int .i64 f.R, .int .i64 f.S, .slice z.A2 f.run.length z.c2] ∧ Below w.heap.size w wx)
  case first =>
    have HX := Lib.hid X
    have HB := Lib.hid hbW
    clear X hsW hbW HP HPRE HV1 HV2 HST hlen
    go_region
    all_goals
      go_wp2_with fail
      go_meet
      case rel =>
        have X := HX.out
        have hb := HB.out
        first
        | exact ⟨_, _, rfl, rfl, ((X.alloc _).alloc _).drew, (Bk.new _ _ _).drew, ((bk_last rfl).alloc _).drew, ((hb.alloc hb.size _).alloc (by have := hb.size; simp; omega) _).drew⟩
        | exact ⟨_, _, rfl, rfl, ((X.alloc _).alloc _).drew, ((bk_last rfl).alloc _).drew, (bk_last (by simp)).drew, ((hb.alloc hb.size _).alloc (by have := hb.size; simp; omega) _).drew⟩
        | exact ⟨_, _, rfl, rfl, ((X.alloc _).alloc _).drew, (bk_last (by simp)).drew, ((bk_last rfl).alloc _).drew, ((hb.alloc hb.size _).alloc (by have := hb.size; simp; omega) _).drew⟩
  case rest =>
    obtain ⟨p, q, rfl, rfl, X1, P1, Q1, hb1⟩ := hcut
    clear x0 x1 x2 x3 x4 x5 x6 x7 x8 X hsW hlt
    have x0 := X1.cell 0
    have x1 := X1.cell 1
    have x2 := X1.cell 2
    have x3 := X1.cell 3
    have x4 := X1.cell 4
    have x5 := X1.cell 5
    have x6 := X1.cell 6
    have x7 := X1.cell 7
    have x8 := X1.cell 8
    have p0 := P1.cell 0
    have p1 := P1.cell 1
    have p2 := P1.cell 2
    have p3 := P1.cell 3
    simp at x0 x1 x2 x3 x4 x5 x6 x7 x8 p0 p1 p2 p3
    go_upto_region 3 with fail
    clear x0 x1 x2 x3 x4 x5 x6 x7 p0 p1 p2 p3 x8
    generalize hgg : wc.heap.size = g at *
    have F0 : Bk (wc.alloc (.cells #[.int .i64 f.eye, .int .i64 f.R, .int .i64 f.S, .slice z.A1 f.bed.length z.c1, .int .i64 f.eye, .int .i64 f.R, .int .i64 f.S, .slice z.A2 f.run.length z.c2, .slice z.A3 f.drive.length z.c3, .int .i64 f.R, .int .i64 f.S, .slice none 0 0, .slice none 0 0, .slice none 0 0, .slice none 0 0, .slice none 0 0, .slice none 0 0, .slice none 0 0, .slice none 0 0, .slice none 0 0] 181)) g 181 _ := bk_last hgg
    replace X1 := X1.alloc (.cells #[.int .i64 f.eye, .int .i64 f.R, .int .i64 f.S, .slice z.A1 f.bed.length z.c1, .int .i64 f.eye, .int .i64 f.R, .int .i64 f.S, .slice z.A2 f.run.length z.c2, .slice z.A3 f.drive.length z.c3, .int .i64 f.R, .int .i64 f.S, .slice none 0 0, .slice none 0 0, .slice none 0 0, .slice none 0 0, .slice none 0 0, .slice none 0 0, .slice none 0 0, .slice none 0 0, .slice none 0 0] 181)
    replace P1 := P1.alloc (.cells #[.int .i64 f.eye, .int .i64 f.R, .int .i64 f.S, .slice z.A1 f.bed.length z.c1, .int .i64 f.eye, .int .i64 f.R, .int .i64 f.S, .slice z.A2 f.run.length z.c2, .slice z.A3 f.drive.length z.c3, .int .i64 f.R, .int .i64 f.S, .slice none 0 0, .slice none 0 0, .slice none 0 0, .slice none 0 0, .slice none 0 0, .slice none 0 0, .slice none 0 0, .slice none 0 0, .slice none 0 0] 181)
    replace Q1 := Q1.alloc (.cells #[.int .i64 f.eye, .int .i64 f.R, .int .i64 f.S, .slice z.A1 f.bed.length z.c1, .int .i64 f.eye, .int .i64 f.R, .int .i64 f.S, .slice z.A2 f.run.length z.c2, .slice z.A3 f.drive.length z.c3, .int .i64 f.R, .int .i64 f.S, .slice none 0 0, .slice none 0 0, .slice none 0 0, .slice none 0 0, .slice none 0 0, .slice none 0 0, .slice none 0 0, .slice none 0 0, .slice none 0 0] 181)
    have hgw : w.heap.size ≤ g := by have := hb1.size; omega
    replace hb1 := hb1.alloc (by omega) (.cells #[.int .i64 f.eye, .int .i64 f.R, .int .i64 f.S, .slice z.A1 f.bed.length z.c1, .int .i64 f.eye, .int .i64 f.R, .int .i64 f.S, .slice z.A2 f.run.length z.c2, .slice z.A3 f.drive.length z.c3, .int .i64 f.R, .int .i64 f.S, .slice none 0 0, .slice none 0 0, .slice none 0 0, .slice none 0 0, .slice none 0 0, .slice none 0 0, .slice none 0 0, .slice none 0 0, .slice none 0 0] 181)
    generalize wc.alloc _ = V at *
    clear hgg
    have HXW := Lib.hid X1
    have p0 := P1.cell 0
    have p1 := P1.cell 1
    have p2 := P1.cell 2
    have p3 := P1.cell 3
    simp at p0 p1 p2 p3
    go_wp2_with fail
    refine (HV1.out V hb1).mono ?_
    rintro e V2 ⟨rfl, hb2⟩
    have hb12 := hb1.trans (hb2.mono hb1.size)
    replace X1 := X1.keep hb2
    replace F0 := F0.keep hb2
    replace P1 := P1.keep hb2
    replace Q1 := Q1.keep hb2
    clear p0 p1 p2 p3 HXW hb1 hb2
    have q0 := Q1.cell 0
    have q1 := Q1.cell 1
    have q2 := Q1.cell 2
    have q3 := Q1.cell 3
    simp at q0 q1 q2 q3
    go_wp2_with fail
    refine (HV2.out V2 hb12).mono ?_
    rintro e V3 ⟨rfl, hb3⟩
    have hb13 := hb12.trans (hb3.mono hb12.size)
    replace X1 := X1.keep hb3
    replace F0 := F0.keep hb3
    replace P1 := P1.keep hb3
    replace Q1 := Q1.keep hb3
    clear q0 q1 q2 q3 hb12 hb3 HV1 HV2 hbW
    have p0 := P1.cell 0
    have p1 := P1.cell 1
    have p2 := P1.cell 2
    have q0 := Q1.cell 0
    have q1 := Q1.cell 1
    have q2 := Q1.cell 2
    have x8 := X1.cell 8
    simp at p0 p1 p2 q0 q1 q2 x8
    have HBAD : Hid (f.drive.length ≠ 9 → drvOk f = false) := fun h => by simp [drvOk, h]
    by_cases h9 : f.drive.length = 9
    · have hne : ((f.drive.length : Int) != 9) = false := by simp [h9]
      have F : Bk V3 g 181 (drCells f z 0) := by
        rw [h9] at F0
        exact F0
      have H9 := Lib.hid h9
      have h9a : f.drive.length ≤ 9 := by omega
      have h9b : 9 ≤ f.drive.length := by omega
      clear h9 F0 HBAD P1 Q1
      go_upto_region 5 with fail
      clear p0 p1 p2 q0 q1 q2 hne
      go_wp2_with fail
      go_loopw [58] (fun i wr => ∃ k : Nat, k ≤ 9 ∧ i = .int .i64 k ∧ Bk wr g 181 (drCells f z k) ∧ Below w.heap.size w wr ∧ Hid (∀ j, j < k → drivenB (f.drive.getD j []) = true)) (fun i _ => 9 - (intOf i).toNat)
      case atStart => exact ⟨0, Nat.zero_le _, rfl, F, hb13, fun j h => absurd h (by omega)⟩
      case round =>
        obtain ⟨k, hk, rfl, F, hB, hall⟩ := hrel
        clear x8 hb13
        by_cases hlt : k < 9
        · have hltd : k < f.drive.length := by omega
          have hkI : (k : Int) < f.drive.length := by omega
          obtain ⟨b5, o5, hA, hb5, hc5⟩ := (HP.out.below hB).dcell (by omega)
          have c0 := hc5 k hltd
          clear hc5
          rw [hA]
          clear hA
          have HG : Hid (drivenB (f.drive.getD k []) = true → ∀ j, j < k + 1 → drivenB (f.drive.getD j []) = true) := fun hg j hj => by
            rcases Nat.lt_or_ge j k with h | h
            · exact hall.out j h
            · obtain rfl : j = k := by omega
              exact hg
          have HBD : Hid (drivenB (f.drive.getD k []) = false → drvOk f = false) := fun h => by
            have : f.drive.all drivenB = false := by
              rw [List.all_eq_false]
              exact ⟨f.drive.getD k [], getD_mem [] hltd, by rw [h]; simp⟩
            simp [drvOk, this]
          have HD := Lib.hid (driven_any (z.dr.getD k (none, 0)).1 (z.dr.getD k (none, 0)).2 (f.drive.getD k []) wr ((HP.out.below hB).row k hltd) (by have := HPRE.out.dm _ (getD_mem [] hltd); omega))
          have HS : Hid (∀ W : World, Bk W g 181 (drCells f z k) → Bk (W.setCell ⟨g, 11 + k, none⟩ (.slice (z.dr.getD k (none, 0)).1 (f.drive.getD k []).length (z.dr.getD k (none, 0)).2)) g 181 (drCells f z (k + 1))) := fun W hW => by
            rw [← drCells_set f z k hlt]
            exact hW.put (11 + k) _
          have HC : Hid (∃ v, (drCells f z k)[11 + k]? = some v) := by
            have : 11 + k < (drCells f z k).size := by simp [drCells, Flr.head]; omega
            exact ⟨_, Array.getElem?_eq_getElem this⟩
          unfold drCell at c0
          clear hall
          generalize (z.dr.getD k (none, 0)).1 = A at *
          generalize (z.dr.getD k (none, 0)).2 = cc at *
          generalize f.drive.getD k [] = l at *
          cases hd : drivenB l
          · rw [hd] at HD
            have HQ := Lib.hid (HBD.out hd)
            clear hd HBD HG
            go_wp2_with (go_at_call 121; refine (HD.out).mono ?_; rintro e w5 ⟨rfl, hb5⟩)
            go_ret2
            exact ⟨hB.trans (hb5.mono hB.size), .inr ⟨HQ.out, rfl⟩⟩
          · rw [hd] at HD
            have HQ := Lib.hid (HG.out hd)
            clear hd HBD HG
            go_upto_region 10 with (go_at_call 121; refine (HD.out).mono ?_; rintro e w5 ⟨rfl, hb5⟩)
            have F5 := F.keep hb5
            have hB5 := hB.trans (hb5.mono hB.size)
            have HF6 := Lib.hid (HS.out w5 F5)
            have HB6 := Lib.hid (hB5.setCell (p := ⟨g, 11 + k, none⟩) (by simpa using hgw) (.slice A l.length cc))
            obtain ⟨v5, hv5⟩ := HC.out
            have f0 := F5.cell (11 + k)
            rw [hv5] at f0
            have f1 := F5.fz (11 + k)
            have f2 := F5.lt
            clear hv5 hb5 HS HC HD F F5 hB hB5 c0
            go_wp2_with fail
            go_roundw
            case rel => exact ⟨k + 1, by omega, by go_num, HF6.out, HB6.out, HQ.out⟩
            case measure => simp [intOf]; omega
        · obtain rfl : k = 9 := by omega
          have HD1 : drvOk f = true := by
            simp only [drvOk, Bool.and_eq_true, decide_eq_true_eq, List.all_eq_true]
            refine ⟨H9.out, fun l hl => ?_⟩
            obtain ⟨j, hj, rfl⟩ := List.getElem_of_mem hl
            have := hall.out j (by omega)
            rwa [getD_get _ _ hj] at this
          have hfl : FlAt wr g f z := ⟨F, (HP.out.below hB).bed, (HP.out.below hB).run, fun i hi => (HP.out.below hB).row i (by omega)⟩
          have hok := HPRE.out.ok HD1
          have HS := Lib.hid (HST.out g wr hfl hok)
          have hle : f.R * f.S * f.S ≤ 256 := Nat.mul_le_mul (Nat.mul_le_mul hok.r1 hok.s1) hok.s1
          have HD1 := Lib.hid HD1
          have HFL := Lib.hid hfl
          clear hfl hok F hall HST
          generalize f.R * f.S * f.S = ns at *
          go_wp2_with (go_at_call 122; refine (HS.out).mono ?_; rintro e w5 ⟨rfl, hb5⟩)
          go_ret2
          exact ⟨hB.trans (hb5.mono hB.size), .inl ⟨HD1.out, g, hgw, rfl, HFL.out.below hb5⟩⟩
    · have hne : ((f.drive.length : Int) != 9) = true := by
        simp only [bne_iff_ne, ne_eq]
        omega
      have HB := Lib.hid (HBAD.out h9)
      clear HBAD F0
      go_wp2_with fail
      go_ret2
      exact ⟨hb13, .inr ⟨HB.out, rfl⟩⟩

end Go.Proofs.YteihcodicfoiaaaGreat
