/-
  What is proved: the contracts of reach and apart.
-/
import Derived.Test.YthmngnfdfelkeaaMg9
namespace Go.Proofs.Ythmngnfdfelkeaa
open Go.RowKit
attribute [local go_sem ↓] max_int min_int

theorem abs_mul {x y a b : Int} (h1 : -a ≤ x ∧ x ≤ a) (h2 : -b ≤ y ∧ y ≤ b) : -(a * b) ≤ x * y ∧ x * y ≤ a * b := by
  rcases Int.le_total 0 x with h0 | h0
  · exact mul_bound h0 h1.2 h2.1 h2.2
  · have := mul_bound (y := -x) (x := y) (a := a) (b := b) (by omega) (by omega) h2.1 h2.2
    rw [Int.neg_mul] at this
    omega

/-- How far a point goes by a way. -/
def byV (p way : Int × Int) : Int := p.1 * way.1 + p.2 * way.2
def reachLo (s : Stn) (way : Int × Int) (lo hi : List Int) : Nat → Int
  | 0 => byV (momX s s.f.kinds.length, momY s s.f.kinds.length) way
  | k + 1 => reachLo s way lo hi k + min (byV (s.pockets.getD k ((0, 0), 0)).1 way * lo.getD k 0) (byV (s.pockets.getD k ((0, 0), 0)).1 way * hi.getD k 0)
def reachHi (s : Stn) (way : Int × Int) (lo hi : List Int) : Nat → Int
  | 0 => byV (momX s s.f.kinds.length, momY s s.f.kinds.length) way
  | k + 1 => reachHi s way lo hi k + max (byV (s.pockets.getD k ((0, 0), 0)).1 way * lo.getD k 0) (byV (s.pockets.getD k ((0, 0), 0)).1 way * hi.getD k 0)

/-- A way of small coordinates; a box of small bounds. -/
def WayOk (way : Int × Int) : Prop := (-100 ≤ way.1 ∧ way.1 ≤ 100) ∧ -100 ≤ way.2 ∧ way.2 ≤ 100
def BoxOk (lo hi : List Int) : Prop := lo.length = 8 ∧ hi.length = 8 ∧ ∀ i, i < 8 → (0 ≤ lo.getD i 0 ∧ lo.getD i 0 ≤ 255) ∧ 0 ≤ hi.getD i 0 ∧ hi.getD i 0 ≤ 255

theorem mom_by {s : Stn} (h : s.ok = true) {way : Int × Int} (hw : WayOk way) :
    (-73000000000000000 ≤ momX s s.f.kinds.length * way.1 ∧ momX s s.f.kinds.length * way.1 ≤ 73000000000000000) ∧ -73000000000000000 ≤ momY s s.f.kinds.length * way.2 ∧ momY s s.f.kinds.length * way.2 ≤ 73000000000000000 := by
  have hm := mom_bound h s.f.kinds.length (Nat.le_refl _)
  obtain ⟨_, _, _, _, _, _, _, k8⟩ := fac_ok (stn_ok h).1
  have h1 := abs_mul (x := momX s s.f.kinds.length) (y := way.1) (a := 730000000000000) (b := 100) (by omega) hw.1
  have h2 := abs_mul (x := momY s s.f.kinds.length) (y := way.2) (a := 730000000000000) (b := 100) (by omega) hw.2
  omega

theorem arm_by {s : Stn} (h : s.ok = true) {way : Int × Int} (hw : WayOk way) {k : Nat} (hk : k < s.pockets.length) :
    (-100000000 ≤ (s.pockets.getD k ((0, 0), 0)).1.1 * way.1 ∧ (s.pockets.getD k ((0, 0), 0)).1.1 * way.1 ≤ 100000000) ∧ -100000000 ≤ (s.pockets.getD k ((0, 0), 0)).1.2 * way.2 ∧ (s.pockets.getD k ((0, 0), 0)).1.2 * way.2 ≤ 100000000 := by
  obtain ⟨_, _, _, _, _, _, _, _, hp⟩ := stn_ok h
  obtain ⟨⟨p1, p3⟩, _⟩ := hp _ (getD_mem ((0, 0), 0) hk)
  have h1 := abs_mul (a := 1000000) (b := 100) p1 hw.1
  have h2 := abs_mul (a := 1000000) (b := 100) p3 hw.2
  omega

theorem box_by {b x : Int} (h1 : -200000000 ≤ b ∧ b ≤ 200000000) (h2 : 0 ≤ x ∧ x ≤ 255) : -51000000000 ≤ b * x ∧ b * x ≤ 51000000000 := by
  have := abs_mul (x := b) (y := x) (a := 200000000) (b := 255) h1 (by omega)
  omega

theorem reach_bound {s : Stn} (h : s.ok = true) {way : Int × Int} (hw : WayOk way) {lo hi : List Int} (hbx : BoxOk lo hi) : ∀ k, k ≤ s.pockets.length →
    (-(146000000000000000 + (k : Int) * 51000000000) ≤ reachLo s way lo hi k ∧ reachLo s way lo hi k ≤ 146000000000000000 + (k : Int) * 51000000000) ∧ -(146000000000000000 + (k : Int) * 51000000000) ≤ reachHi s way lo hi k ∧ reachHi s way lo hi k ≤ 146000000000000000 + (k : Int) * 51000000000
  | 0, _ => by
    have := mom_by h hw
    simp only [reachLo, reachHi, byV]
    omega
  | k + 1, hk => by
    have ih := reach_bound h hw hbx k (by omega)
    have ha := arm_by h hw (show k < s.pockets.length by omega)
    have hp8 := (stn_ok h).2.2.2.2.1
    obtain ⟨b1, b2⟩ := hbx.2.2 k (by omega)
    simp only [reachLo, reachHi]
    have hb : -200000000 ≤ byV (s.pockets.getD k ((0, 0), 0)).1 way ∧ byV (s.pockets.getD k ((0, 0), 0)).1 way ≤ 200000000 := by simp only [byV]; omega
    have e1 := box_by hb b1
    have e2 := box_by hb b2
    generalize byV (s.pockets.getD k ((0, 0), 0)).1 way * lo.getD k 0 = u at *
    generalize byV (s.pockets.getD k ((0, 0), 0)).1 way * hi.getD k 0 = v at *
    omega

set_option maxRecDepth 100000 in
set_option maxHeartbeats 4000000 in
theorem reach_any (g : Nat) (s : Stn) (z : Loc) (lo hi : List Int) (way : Int × Int) (w : World) (R : Bk w g 98 (s.cells z ++ runM s)) (hs : StAt w s z) (hok : s.ok = true) (hw : WayOk way) (hbx : BoxOk lo hi) :
    Calls Try.prog 73 #[.pointer (some ⟨g, 0, none⟩), .agg (boxA lo hi), .agg #[.int .i64 way.1, .int .i64 way.2]] w fun e w' => e = .returned (.agg #[.int .i64 (reachLo s way lo hi s.pockets.length), .int .i64 (reachHi s way lo hi s.pockets.length)]) ∧ Below w.heap.size w w' := by
  have hpl := (stn_ok hok).2.2.2.2.1
  have hgl := R.lt
  have hmb := mom_by hok hw
  obtain ⟨wx, wy⟩ := way
  simp only at hmb ⊢
  obtain ⟨⟨m1, m2⟩, m3, m4⟩ := hmb
  have q0 := R.cell 8
  have q1 := R.cell 9
  rw [show (s.cells z ++ runM s)[8]? = some (Value.int .i64 (momX s s.f.kinds.length)) from rfl] at q0
  rw [show (s.cells z ++ runM s)[9]? = some (Value.int .i64 (momY s s.f.kinds.length)) from rfl] at q1
  have HB := Lib.hid (And.intro (And.intro hs R) (And.intro hok (And.intro hw hbx)))
  have H0 : Hid (reachLo s (wx, wy) lo hi 0 = momX s s.f.kinds.length * wx + momY s s.f.kinds.length * wy ∧ reachHi s (wx, wy) lo hi 0 = momX s s.f.kinds.length * wx + momY s s.f.kinds.length * wy) := ⟨rfl, rfl⟩
  have HP : Hid (∀ W : World, Calls Try.prog 116 #[.agg #[.int .i64 (momX s s.f.kinds.length), .int .i64 (momY s s.f.kinds.length)], .agg #[.int .i64 wx, .int .i64 wy]] W fun e w' => e = .returned (.int .i64 (reachLo s (wx, wy) lo hi 0)) ∧ Below W.heap.size W w') := fun W => by
    rw [H0.out.1]
    exact by_any _ _ _ _ W (by omega) (by omega) (by omega)
  have H01 := Lib.hid (H0.out.2.trans H0.out.1.symm)
  clear hs R hok hw hbx m1 m2 m3 m4 H0
  generalize momX s s.f.kinds.length = mx at *
  generalize momY s s.f.kinds.length = my at *
  go_enter Try.func73, Try.ntmps73
  go_upto_region 1 with fail
  have B : Bk (((w.alloc (.cells (boxA lo hi) 103)).alloc (.cells #[.int .i64 wx, .int .i64 wy] 43)).alloc (.cells #[.int .i64 0, .int .i64 0] 53)) w.heap.size 103 (boxA lo hi) := ((bk_last rfl).alloc _).alloc _
  have Y : Bk (((w.alloc (.cells (boxA lo hi) 103)).alloc (.cells #[.int .i64 wx, .int .i64 wy] 43)).alloc (.cells #[.int .i64 0, .int .i64 0] 53)) (w.heap.size + 1) 43 #[.int .i64 wx, .int .i64 wy] := (bk_last (by simp)).alloc _
  have E : Bk (((w.alloc (.cells (boxA lo hi) 103)).alloc (.cells #[.int .i64 wx, .int .i64 wy] 43)).alloc (.cells #[.int .i64 0, .int .i64 0] 53)) (w.heap.size + 1 + 1) 53 #[.int .i64 0, .int .i64 0] := bk_last (by simp)
  have hB : Below w.heap.size w (((w.alloc (.cells (boxA lo hi) 103)).alloc (.cells #[.int .i64 wx, .int .i64 wy] 43)).alloc (.cells #[.int .i64 0, .int .i64 0] 53)) := (((Below.refl _ _).alloc (Nat.le_refl _) _).alloc (by simp) _).alloc (by simp; omega) _
  generalize ((w.alloc (.cells (boxA lo hi) 103)).alloc (.cells _ 43)).alloc (.cells _ 53) = U at *
  have x8 := (hB.cell (p := ⟨g, 8, none⟩) hgl).trans q0
  have x9 := (hB.cell (p := ⟨g, 9, none⟩) hgl).trans q1
  have y0 := Y.cell 0
  have y1 := Y.cell 1
  simp at y0 y1
  clear q0 q1
  refine wp_region_ext (by kernel_rfl) (by kernel_rfl) ?_
  have X8 := fun x : Ext U => keepc x.bel x8
  have X9 := fun x : Ext U => keepc x.bel x9
  have Y0 := fun x : Ext U => keepc x.bel y0
  have Y1 := fun x : Ext U => keepc x.bel y1
  clear x8 x9 y0 y1
  repeat (go_big_quiet_step ((go_at_call 116; exact ext_of (HP.out _))))
  refine wpQuiet_nil ?_
  rintro _ ⟨y, rfl⟩
  clear X8 X9 Y0 Y1
  have hb1 := y.bel
  generalize y.w = w2 at hb1 ⊢
  replace B := B.keep hb1
  replace Y := Y.keep hb1
  replace E := E.keep hb1
  replace hB := hB.trans (hb1.mono hB.size)
  clear hb1
  go_upto_region 3 with fail
  have T : Bk (w2.alloc (.cells #[.int .i64 (reachLo s (wx, wy) lo hi 0), .int .i64 (reachLo s (wx, wy) lo hi 0)] 53)) w2.heap.size 53 #[.int .i64 (reachLo s (wx, wy) lo hi 0), .int .i64 (reachHi s (wx, wy) lo hi 0)] := by rw [H01.out]; exact bk_last rfl
  have hqB := B.lt
  have hqY := Y.lt
  have hqE := E.lt
  replace B := B.alloc (.cells #[.int .i64 (reachLo s (wx, wy) lo hi 0), .int .i64 (reachLo s (wx, wy) lo hi 0)] 53)
  replace Y := Y.alloc (.cells #[.int .i64 (reachLo s (wx, wy) lo hi 0), .int .i64 (reachLo s (wx, wy) lo hi 0)] 53)
  replace E := E.alloc (.cells #[.int .i64 (reachLo s (wx, wy) lo hi 0), .int .i64 (reachLo s (wx, wy) lo hi 0)] 53)
  replace hB := hB.alloc hB.size (.cells #[.int .i64 (reachLo s (wx, wy) lo hi 0), .int .i64 (reachLo s (wx, wy) lo hi 0)] 53)
  generalize w2.alloc (.cells _ 53) = V at *
  generalize hq : w2.heap.size = q at *
  have hqg : w.heap.size + 1 + 1 < q := by omega
  clear hq hqB hqY hqE H01 HP
  obtain ⟨_, _, _, _, _, _, x6, _⟩ := stn_cell (HB.out.1.2.below hB hgl)
  go_wp2_with fail
  clear x6
  go_loopw [29] (fun i wr => ∃ k : Nat, k ≤ s.pockets.length ∧ i = .int .i64 k ∧ Bk wr q 53 #[.int .i64 (reachLo s (wx, wy) lo hi k), .int .i64 (reachHi s (wx, wy) lo hi k)] ∧ Bk wr w.heap.size 103 (boxA lo hi) ∧ Bk wr (w.heap.size + 1) 43 #[.int .i64 wx, .int .i64 wy] ∧ Bk wr (w.heap.size + 1 + 1) 53 #[.int .i64 0, .int .i64 0] ∧ Below w.heap.size w wr) (fun i _ => s.pockets.length - (intOf i).toNat)
  case atStart => exact ⟨0, Nat.zero_le _, rfl, T, B, Y, E, hB⟩
  case round =>
    clear T B Y E hB
    obtain ⟨k, hk, rfl, T, B, Y, E, hB⟩ := hrel
    by_cases hlt : k < s.pockets.length
    · have hkI : (k : Int) < s.pockets.length := by omega
      have hk8 : (k : Int) < 8 := by omega
      obtain ⟨b, off, hA, hb, hc⟩ := (HB.out.1.1.below hB).pockets.pk (by omega)
      obtain ⟨c0, c1, c2⟩ := hc k hlt
      obtain ⟨⟨a1, a2⟩, a3, a4⟩ := arm_by HB.out.2.1 HB.out.2.2.1 hlt
      obtain ⟨⟨e1, e2⟩, e3, e4⟩ := reach_bound HB.out.2.1 HB.out.2.2.1 HB.out.2.2.2 k (by omega)
      obtain ⟨l1, l2, l3⟩ := HB.out.2.2.2
      obtain ⟨g1, g2⟩ := l3 k (by omega)
      have HN : Hid (reachLo s (wx, wy) lo hi (k + 1) = reachLo s (wx, wy) lo hi k + min (byV (s.pockets.getD k ((0, 0), 0)).1 (wx, wy) * lo.getD k 0) (byV (s.pockets.getD k ((0, 0), 0)).1 (wx, wy) * hi.getD k 0) ∧ reachHi s (wx, wy) lo hi (k + 1) = reachHi s (wx, wy) lo hi k + max (byV (s.pockets.getD k ((0, 0), 0)).1 (wx, wy) * lo.getD k 0) (byV (s.pockets.getD k ((0, 0), 0)).1 (wx, wy) * hi.getD k 0)) := ⟨rfl, rfl⟩
      have d0 := B.cell k
      rw [boxA_lo l1 (by omega)] at d0
      have d1 := B.cell (8 + k)
      rw [boxA_hi l1 l2 (by omega)] at d1
      have HD := Lib.hid (And.intro d0 d1)
      clear hc d0 d1
      generalize s.pockets.getD k ((0, 0), 0) = p at *
      obtain ⟨⟨px, py⟩, pm⟩ := p
      simp only at c0 c1 c2 a1 a2 a3 a4 HN
      have hbb : -200000000 ≤ byV (px, py) (wx, wy) ∧ byV (px, py) (wx, wy) ≤ 200000000 := by simp only [byV]; omega
      have p1 := box_by hbb g1
      have p2 := box_by hbb g2
      have HP : Hid (∀ W : World, Calls Try.prog 116 #[.agg #[.int .i64 px, .int .i64 py], .agg #[.int .i64 wx, .int .i64 wy]] W fun e w' => e = .returned (.int .i64 (byV (px, py) (wx, wy))) ∧ Below W.heap.size W w') := fun W => by_any px py wx wy W (by omega) (by omega) (by omega)
      generalize byV (px, py) (wx, wy) = v at *
      generalize lo.getD k 0 = lk at *
      generalize hi.getD k 0 = hk' at *
      generalize hML : reachLo s (wx, wy) lo hi (k + 1) = ML at *
      generalize hMH : reachHi s (wx, wy) lo hi (k + 1) = MH at *
      have HML := Lib.hid hML
      have HMH := Lib.hid hMH
      clear hML hMH a1 a2 a3 a4 hbb
      generalize reachLo s (wx, wy) lo hi k = rl at *
      generalize reachHi s (wx, wy) lo hi k = rh at *
      have hz := hB.size
      have y0 := Y.cell 0
      have y1 := Y.cell 1
      simp at y0 y1
      have Yl := Y.lt
      rw [hA]
      clear hA
      go_wp2_with fail
      refine (HP.out _).mono ?_
      rintro e w3 ⟨rfl, hb3⟩
      replace T := (T.alloc _).keep hb3
      have hd0 := keepc hb3 ((World.cell?_alloc_lt _ _ _ (by exact B.lt)).trans HD.out.1)
      have hd1 := keepc hb3 ((World.cell?_alloc_lt _ _ _ (by exact B.lt)).trans HD.out.2)
      replace B := (B.alloc _).keep hb3
      replace Y := (Y.alloc _).keep hb3
      replace E := (E.alloc _).keep hb3
      have hB3 := (hB.alloc hz _).trans (hb3.mono (by simp; omega))
      clear hb3 c0 c1 c2 y0 y1 Yl hb hB HD
      have t0 := T.cell 0
      have t1 := T.cell 1
      have t2 := T.fz 0
      have t3 := T.fz 1
      simp at t0 t1
      go_wp2_with fail
      go_quiet (fail)
      go_wp2_with fail
      go_roundw
      case rel =>
        refine ⟨k + 1, by omega, by go_num, ?_, ((B.drewN nq).far (by simp; omega) _).far (by simp; omega) _, ((Y.drewN nq).far (by simp; omega) _).far (by simp; omega) _, ((E.drewN nq).far (by simp; omega) _).far (by simp; omega) _, ((below_drewN hB3 nq).setCell (by simp; omega) _).setCell (by simp; omega) _⟩
        rw [HML.out, HMH.out, HN.out.1, HN.out.2]
        exact ((T.drewN nq).put 0 _).put 1 _
      case measure => simp [intOf]; omega
    · have : k = s.pockets.length := by omega
      subst this
      have t0 := T.cell 0
      have t1 := T.cell 1
      have e0 := E.cell 0
      have e1 := E.cell 1
      have e2 := E.fz 0
      have e3 := E.fz 1
      simp at t0 t1 e0 e1
      go_wp2_with fail
      refine bodyPost_ret (v := .agg #[.int .i64 (reachLo s (wx, wy) lo hi s.pockets.length), .int .i64 (reachHi s (wx, wy) lo hi s.pockets.length)]) (by simp [results, Try.results73, go_sem, e0, e1]) rfl ⟨rfl, ?_⟩
      repeat (first | exact hB | refine Below.setCell ?_ (by simp <;> omega) _ | refine Below.alloc ?_ (by simp <;> omega) _ | refine below_drewN ?_ _)

set_option maxRecDepth 100000 in
theorem field53 (W : World) (a b : Int) : (Instr.field 53 (.agg #[.int .i64 a, .int .i64 b]) 0).run Try.prog W = .ok (.int .i64 a) W := by
  simp [Instr.field, asAgg, go_sem]

theorem len8 {l : List Int} (h : l.length = 8) : ∃ a b c d e f g i, l = [a, b, c, d, e, f, g, i] := by
  match l, h with
  | [a, b, c, d, e, f, g, i], _ => exact ⟨a, b, c, d, e, f, g, i, rfl⟩

/-- Whether the moment goes too far by a way over a box. -/
def apartB (s : Stn) (way : Int × Int) (lo hi : List Int) : Bool := decide (s.tol * ((way.1.natAbs : Int) + way.2.natAbs) < reachLo s way lo hi s.pockets.length)

set_option maxRecDepth 100000 in
set_option maxHeartbeats 4000000 in
theorem apart_any (g : Nat) (s : Stn) (z : Loc) (lo hi : List Int) (way : Int × Int) (w : World) (R : Bk w g 98 (s.cells z ++ runM s)) (hs : StAt w s z) (hok : s.ok = true) (hw : WayOk way) (hbx : BoxOk lo hi) :
    Calls Try.prog 80 #[.pointer (some ⟨g, 0, none⟩), .agg (boxA lo hi), .agg #[.int .i64 way.1, .int .i64 way.2]] w fun e w' => e = .returned (.bool (apartB s way lo hi)) ∧ Below w.heap.size w w' := by
  have hgl := R.lt
  have HR : Hid (∀ W, Below w.heap.size w W → Calls Try.prog 73 #[.pointer (some ⟨g, 0, none⟩), .agg (boxA lo hi), .agg #[.int .i64 way.1, .int .i64 way.2]] W fun e w' => e = .returned (.agg #[.int .i64 (reachLo s way lo hi s.pockets.length), .int .i64 (reachHi s way lo hi s.pockets.length)]) ∧ Below W.heap.size W w') := fun W h => reach_any g s z lo hi way W (R.below h hgl) (hs.below h) hok hw hbx
  obtain ⟨_, _, _, _, h5, t0, t1, _⟩ := stn_ok hok
  obtain ⟨⟨e1, e2⟩, _⟩ := reach_bound hok hw hbx s.pockets.length (Nat.le_refl _)
  have HZ : Hid (∀ W : World, Calls Try.prog 120 #[.agg #[.int .i64 way.1, .int .i64 way.2]] W fun e w' => e = .returned (.int .i64 ((way.1.natAbs : Int) + way.2.natAbs)) ∧ Below W.heap.size W w') := fun W => size_any _ _ W (by have := hw.1; omega) (by have := hw.2; omega)
  have hsz : 0 ≤ (way.1.natAbs : Int) + way.2.natAbs ∧ (way.1.natAbs : Int) + way.2.natAbs ≤ 200 := by
    obtain ⟨⟨a, b⟩, c, d⟩ := hw
    omega
  have hm := mul_bound (y := s.tol) (x := (way.1.natAbs : Int) + way.2.natAbs) (a := 1000000000000) (b := 200) t0 t1 (by omega) hsz.2
  have HA : Hid (apartB s way lo hi = decide (s.tol * ((way.1.natAbs : Int) + way.2.natAbs) < reachLo s way lo hi s.pockets.length)) := rfl
  obtain ⟨wx, wy⟩ := way
  simp only at HR HZ hsz hm HA ⊢
  have x7 := (stn_cell R).2.2.2.2.2.2.2
  obtain ⟨l0, l1, l2, l3, l4, l5, l6, l7, rfl⟩ := len8 hbx.1
  obtain ⟨h0, h1, h2, h3, h4, h5, h6, h7, rfl⟩ := len8 hbx.2.1
  clear R hs hok hw hbx
  generalize reachLo s (wx, wy) [l0, l1, l2, l3, l4, l5, l6, l7] [h0, h1, h2, h3, h4, h5, h6, h7] s.pockets.length = rl at *
  generalize reachHi s (wx, wy) [l0, l1, l2, l3, l4, l5, l6, l7] [h0, h1, h2, h3, h4, h5, h6, h7] s.pockets.length = rh at *
  generalize (wx.natAbs : Int) + wy.natAbs = sz at *
  generalize hap : apartB s (wx, wy) [l0, l1, l2, l3, l4, l5, l6, l7] [h0, h1, h2, h3, h4, h5, h6, h7] = ap at *
  clear hap
  rw [show boxA [l0, l1, l2, l3, l4, l5, l6, l7] [h0, h1, h2, h3, h4, h5, h6, h7] = #[.int .i64 l0, .int .i64 l1, .int .i64 l2, .int .i64 l3, .int .i64 l4, .int .i64 l5, .int .i64 l6, .int .i64 l7, .int .i64 h0, .int .i64 h1, .int .i64 h2, .int .i64 h3, .int .i64 h4, .int .i64 h5, .int .i64 h6, .int .i64 h7] from rfl] at HR ⊢
  go_enter Try.func80, Try.ntmps80
  go_upto_region 1 with fail
  have B : Bk ((w.alloc (.cells #[.int .i64 l0, .int .i64 l1, .int .i64 l2, .int .i64 l3, .int .i64 l4, .int .i64 l5, .int .i64 l6, .int .i64 l7, .int .i64 h0, .int .i64 h1, .int .i64 h2, .int .i64 h3, .int .i64 h4, .int .i64 h5, .int .i64 h6, .int .i64 h7] 103)).alloc (.cells #[.int .i64 wx, .int .i64 wy] 43)) w.heap.size 103 #[.int .i64 l0, .int .i64 l1, .int .i64 l2, .int .i64 l3, .int .i64 l4, .int .i64 l5, .int .i64 l6, .int .i64 l7, .int .i64 h0, .int .i64 h1, .int .i64 h2, .int .i64 h3, .int .i64 h4, .int .i64 h5, .int .i64 h6, .int .i64 h7] := (bk_last rfl).alloc _
  have Y : Bk ((w.alloc (.cells #[.int .i64 l0, .int .i64 l1, .int .i64 l2, .int .i64 l3, .int .i64 l4, .int .i64 l5, .int .i64 l6, .int .i64 l7, .int .i64 h0, .int .i64 h1, .int .i64 h2, .int .i64 h3, .int .i64 h4, .int .i64 h5, .int .i64 h6, .int .i64 h7] 103)).alloc (.cells #[.int .i64 wx, .int .i64 wy] 43)) (w.heap.size + 1) 43 #[.int .i64 wx, .int .i64 wy] := bk_last (by simp)
  have hB : Below w.heap.size w ((w.alloc (.cells #[.int .i64 l0, .int .i64 l1, .int .i64 l2, .int .i64 l3, .int .i64 l4, .int .i64 l5, .int .i64 l6, .int .i64 l7, .int .i64 h0, .int .i64 h1, .int .i64 h2, .int .i64 h3, .int .i64 h4, .int .i64 h5, .int .i64 h6, .int .i64 h7] 103)).alloc (.cells #[.int .i64 wx, .int .i64 wy] 43)) := ((Below.refl _ _).alloc (Nat.le_refl _) _).alloc (by simp) _
  generalize (w.alloc (.cells #[.int .i64 l0, .int .i64 l1, .int .i64 l2, .int .i64 l3, .int .i64 l4, .int .i64 l5, .int .i64 l6, .int .i64 l7, .int .i64 h0, .int .i64 h1, .int .i64 h2, .int .i64 h3, .int .i64 h4, .int .i64 h5, .int .i64 h6, .int .i64 h7] 103)).alloc (.cells _ 43) = U at *
  replace x7 := (hB.cell (p := ⟨g, 7, none⟩) hgl).trans x7
  have y0 := Y.cell 0
  have y1 := Y.cell 1
  simp at y0 y1
  have HRU : Hid (∀ x : Ext U, Calls Try.prog 73 #[.pointer (some ⟨g, 0, none⟩), .agg #[.int .i64 l0, .int .i64 l1, .int .i64 l2, .int .i64 l3, .int .i64 l4, .int .i64 l5, .int .i64 l6, .int .i64 l7, .int .i64 h0, .int .i64 h1, .int .i64 h2, .int .i64 h3, .int .i64 h4, .int .i64 h5, .int .i64 h6, .int .i64 h7], .agg #[.int .i64 wx, .int .i64 wy]] x.w fun e w' => e = .returned (.agg #[.int .i64 rl, .int .i64 rh]) ∧ Below x.w.heap.size x.w w') := fun x => HR.out _ (hB.trans (x.bel.mono hB.size))
  have b0 := B.cell 0
  have b1 := B.cell 1
  have b2 := B.cell 2
  have b3 := B.cell 3
  have b4 := B.cell 4
  have b5 := B.cell 5
  have b6 := B.cell 6
  have b7 := B.cell 7
  have b8 := B.cell 8
  have b9 := B.cell 9
  have b10 := B.cell 10
  have b11 := B.cell 11
  have b12 := B.cell 12
  have b13 := B.cell 13
  have b14 := B.cell 14
  have b15 := B.cell 15
  simp at b0 b1 b2 b3 b4 b5 b6 b7 b8 b9 b10 b11 b12 b13 b14 b15
  have Z0 := fun x : Ext U => keepc x.bel b0
  have Z1 := fun x : Ext U => keepc x.bel b1
  have Z2 := fun x : Ext U => keepc x.bel b2
  have Z3 := fun x : Ext U => keepc x.bel b3
  have Z4 := fun x : Ext U => keepc x.bel b4
  have Z5 := fun x : Ext U => keepc x.bel b5
  have Z6 := fun x : Ext U => keepc x.bel b6
  have Z7 := fun x : Ext U => keepc x.bel b7
  have Z8 := fun x : Ext U => keepc x.bel b8
  have Z9 := fun x : Ext U => keepc x.bel b9
  have Z10 := fun x : Ext U => keepc x.bel b10
  have Z11 := fun x : Ext U => keepc x.bel b11
  have Z12 := fun x : Ext U => keepc x.bel b12
  have Z13 := fun x : Ext U => keepc x.bel b13
  have Z14 := fun x : Ext U => keepc x.bel b14
  have Z15 := fun x : Ext U => keepc x.bel b15
  have X7 := fun x : Ext U => keepc x.bel x7
  have Y0 := fun x : Ext U => keepc x.bel y0
  have Y1 := fun x : Ext U => keepc x.bel y1
  clear x7 y0 y1 HR b0 b1 b2 b3 b4 b5 b6 b7 b8 b9 b10 b11 b12 b13 b14 b15
  have F53 := fun (W : World) => field53 W rl rh
  refine wp_region_ext (by kernel_rfl) (by kernel_rfl) ?_
  repeat (go_big_quiet_step ((first | (go_at_call 73; exact ext_of (HRU.out _)) | (go_at_call 120; exact ext_of (HZ.out _)))))
  refine wpQuiet_nil ?_
  rintro _ ⟨y, rfl⟩
  have hb1 := y.bel
  have hBf := hB.trans (hb1.mono hB.size)
  generalize y.w = w2 at hBf
  go_wp2_with fail
  go_ret
  exact ⟨by rw [HA.out]; rfl, hBf⟩

end Go.Proofs.Ythmngnfdfelkeaa
