/-
  What is proved: the contracts of truth.isWay and truth.Reach and of the law package's along.
-/
import Derived.Test.YthmngnfdfelkeaaApartMg
import Derived.Test.YthmngnfdfelkeaaAwakeMg
namespace Go.Proofs.Ythmngnfdfelkeaa
open Go.RowKit
attribute [local go_sem ↓] max_int min_int

def wayB (way : Int × Int) : Bool := inB way.1 (-100) 100 && inB way.2 (-100) 100 && !(way.1 == 0 && way.2 == 0)
theorem wayB_ok {way : Int × Int} (h : wayB way = true) : WayOk way := by
  simp only [wayB, Bool.and_eq_true, inB, decide_eq_true_eq] at h
  exact ⟨h.1.1, h.1.2⟩
theorem wneq43 (W : World) (a b c d : Int) : (binOp .neq 43 (.agg #[.int .i64 a, .int .i64 b]) (.agg #[.int .i64 c, .int .i64 d])).run Try.prog W = .ok (.bool !(a == c && b == d)) W := by
  simp [go_sem, Try.underlying43]
  by_cases h1 : a = c <;> by_cases h2 : b = d <;> simp [*]

set_option maxHeartbeats 2000000 in
theorem isWay_any (x y : Int) (w : World) :
    Calls Try.prog 72 #[.agg #[.int .i64 x, .int .i64 y]] w fun e w' => e = .returned (.bool (wayB (x, y))) ∧ Below w.heap.size w w' := by
  have hB : Below w.heap.size w ((w.alloc (.cells #[.int .i64 x, .int .i64 y] 43)).alloc (.cells #[.int .i64 x, .int .i64 y] 3)) := ((Below.refl _ _).alloc (Nat.le_refl _) _).alloc (by simp) _
  have X : Bk ((w.alloc (.cells #[.int .i64 x, .int .i64 y] 43)).alloc (.cells #[.int .i64 x, .int .i64 y] 3)) w.heap.size 43 #[.int .i64 x, .int .i64 y] := (bk_last rfl).alloc _
  have hrow : RowAt ((w.alloc (.cells #[.int .i64 x, .int .i64 y] 43)).alloc (.cells #[.int .i64 x, .int .i64 y] 3)) (some ⟨w.heap.size + 1, 0, none⟩) (intCells [x, y]) := row_two (w.alloc (.cells #[.int .i64 x, .int .i64 y] 43)) x y 3 (w.heap.size + 1) (by simp)
  have HF := Lib.hid (flat_any (some ⟨w.heap.size + 1, 0, none⟩) 2 100 [x, y] _ hrow (by simp) (by omega) (by omega))
  have HN := wneq43
  have HR : Hid (wayB (x, y) = (flatB 100 [x, y] && !(x == 0 && y == 0))) := by
    simp [Hid, wayB, flatB]
  generalize flatB 100 [x, y] = fb at *
  generalize wayB (x, y) = wb at *
  cases hz : (x == 0 && y == 0) <;> cases fb
  all_goals
    rw [hz] at HR
    go_enter Try.func72, Try.ntmps72
    go_wp2_with (go_at_call 67; refine (HF.out).mono ?_; rintro e w3 ⟨rfl, hb3⟩; have X3 := X.keep hb3; have x0 := X3.cell 0; have x1 := X3.cell 1; simp at x0 x1)
    go_ret
    exact ⟨by rw [HR.out]; rfl, hB.trans (hb3.mono hB.size)⟩

theorem along_any (x y u v : Int) (w : World) (h1 : -9223372036854775808 ≤ x * u ∧ x * u ≤ 9223372036854775807) (h2 : -9223372036854775808 ≤ y * v ∧ y * v ≤ 9223372036854775807)
    (h3 : -9223372036854775808 ≤ x * u + y * v ∧ x * u + y * v ≤ 9223372036854775807) :
    Calls Try.prog 44 #[.agg #[.int .i64 x, .int .i64 y], .agg #[.int .i64 u, .int .i64 v]] w fun e w' => e = .returned (.int .i64 (x * u + y * v)) ∧ Below w.heap.size w w' := by
  go_enter Try.func44, Try.ntmps44
  go_wp2
  go_ret
  exact ⟨rfl, ((Below.refl _ _).alloc (Nat.le_refl _) _).alloc (by simp) _⟩

/-- What Reach gives. -/
def reachR (s : Stn) (way : Int × Int) : (Int × Int) × Int :=
  if s.ok then if wayB way then ((reachLo s way lowZ (highK s s.pockets.length) s.pockets.length, reachHi s way lowZ (highK s s.pockets.length) s.pockets.length), 0) else ((0, 0), 1) else ((0, 0), 60)

set_option maxRecDepth 100000 in
set_option maxHeartbeats 2000000 in
theorem reachT_any (s : Stn) (z : Loc) (way : Int × Int) (w : World) (hs : StAt w s z) :
    Calls Try.prog 29 #[s.val z, .agg #[.int .i64 way.1, .int .i64 way.2]] w fun e w' => e = .returned (pointV (reachR s way)) ∧ Below w.heap.size w w' := by
  obtain ⟨wx, wy⟩ := way
  simp only
  have HO : Hid (∀ W, StAt W s z → Calls Try.prog 71 #[.agg (s.cells z)] W (OpenPost s z W)) := fun W h => open_any s z W h
  have HI : Hid (∀ W, Calls Try.prog 72 #[.agg #[.int .i64 wx, .int .i64 wy]] W fun e w' => e = .returned (.bool (wayB (wx, wy))) ∧ Below W.heap.size W w') := fun W => isWay_any wx wy W
  unfold Stn.cells at HO
  unfold Stn.val Stn.cells
  go_enter Try.func29, Try.ntmps29
  go_wp2_with fail
  refine (HO.out _ (((hs.alloc _).alloc _).alloc _)).mono ?_
  rintro e w1 ⟨hb1, h⟩
  have hB : Below w.heap.size w w1 := ((((Below.refl _ _).alloc (Nat.le_refl _) _).alloc (by simp) _).alloc (by simp; omega) _).trans (hb1.mono (by simp; omega))
  have Y : Bk w1 (w.heap.size + 1) 43 #[.int .i64 wx, .int .i64 wy] := ((bk_last (by simp)).alloc _).keep hb1
  have E : Bk w1 (w.heap.size + 1 + 1) 53 #[.int .i64 0, .int .i64 0] := (bk_last (by simp)).keep hb1
  have e0 := E.cell 0
  have e1 := E.cell 1
  have e2 := E.fz 0
  have e3 := E.fz 1
  have el := E.lt
  have y0 := Y.cell 0
  have y1 := Y.cell 1
  simp at e0 e1 y0 y1
  rcases h with ⟨h1, rfl⟩ | ⟨h1, g, rfl, hg, R⟩
  · have HR := Lib.hid (show reachR s (wx, wy) = ((0, 0), 60) by simp [reachR, h1])
    go_wp2_with fail
    refine bodyPost_ret (v := pointV ((0, 0), 60)) (by simp [pointV, results, Try.results29, go_sem, e0, e1]) rfl ⟨by first | (rw [HR.out]; done) | (rw [HR.out]; rfl), ?_⟩
    repeat (first | exact hB | refine Below.setCell ?_ (by simp <;> omega) _ | refine Below.alloc ?_ (by simp <;> omega) _ | refine below_drewN ?_ _)
  · cases hf : wayB (wx, wy)
    · have HR := Lib.hid (show reachR s (wx, wy) = ((0, 0), 1) by simp [reachR, h1, hf])
      rw [hf] at HI
      clear R h1 hf
      go_wp2_with fail
      refine (HI.out _).mono ?_
      rintro e w2 ⟨rfl, hb2⟩
      have hB2 := hB.trans (hb2.mono hB.size)
      have E2 := E.keep hb2
      have p0 := E2.cell 0
      have p1 := E2.cell 1
      have p2 := E2.fz 0
      have p3 := E2.fz 1
      have pl := E2.lt
      simp at p0 p1
      go_wp2_with fail
      refine bodyPost_ret (v := pointV ((0, 0), 1)) (by simp [pointV, results, Try.results29, go_sem, p0, p1]) rfl ⟨by first | (rw [HR.out]; done) | (rw [HR.out]; rfl), ?_⟩
      repeat (first | exact hB2 | refine Below.setCell ?_ (by simp <;> omega) _ | refine Below.alloc ?_ (by simp <;> omega) _ | refine below_drewN ?_ _)
    · have HR := Lib.hid (show reachR s (wx, wy) = ((reachLo s (wx, wy) lowZ (highK s s.pockets.length) s.pockets.length, reachHi s (wx, wy) lowZ (highK s s.pockets.length) s.pockets.length), 0) by simp [reachR, h1, hf])
      have hwo := wayB_ok hf
      have hbx := high_ok h1
      rw [hf] at HI
      clear e0 e1 e2 e3 el
      go_wp2_with fail
      refine (HI.out _).mono ?_
      rintro e w2 ⟨rfl, hb2⟩
      have hB2 := hB.trans (hb2.mono hB.size)
      replace R := R.keep hb2
      have E2 := E.keep hb2
      have Y2 := Y.keep hb2
      have hs2 := hs.below hB2
      clear hB Y E hb2 hb1 y0 y1
      have HW : Hid (∀ x : Ext w2, Calls Try.prog 74 #[.pointer (some ⟨g, 0, none⟩)] x.w fun e w' => e = .returned (.agg (boxA lowZ (highK s s.pockets.length))) ∧ Below x.w.heap.size x.w w') := fun x => whole_any g s z _ x.w (R.keep x.bel) (hs2.below x.bel) h1
      have HX : Hid (∀ x : Ext w2, Calls Try.prog 73 #[.pointer (some ⟨g, 0, none⟩), .agg (boxA lowZ (highK s s.pockets.length)), .agg #[.int .i64 wx, .int .i64 wy]] x.w fun e w' => e = .returned (.agg #[.int .i64 (reachLo s (wx, wy) lowZ (highK s s.pockets.length) s.pockets.length), .int .i64 (reachHi s (wx, wy) lowZ (highK s s.pockets.length) s.pockets.length)]) ∧ Below x.w.heap.size x.w w') := fun x => reach_any g s z _ _ (wx, wy) x.w (R.keep x.bel) (hs2.below x.bel) h1 hwo hbx
      clear hf h1 R hs2 hwo hbx
      generalize boxA lowZ (highK s s.pockets.length) = BX at *
      generalize reachLo s (wx, wy) lowZ (highK s s.pockets.length) s.pockets.length = rl at *
      generalize reachHi s (wx, wy) lowZ (highK s s.pockets.length) s.pockets.length = rh at *
      have y0 := Y2.cell 0
      have y1 := Y2.cell 1
      simp at y0 y1
      go_upto_region 6 with fail
      refine wp_region_extmix 5 (by kernel_rfl) (by kernel_rfl) (fun _ _ d _ _ h => by cases d <;> exact h) ?_
      simp only [List.take_succ_cons, List.take_zero, List.drop_succ_cons, List.drop_zero]
      have Y0 := fun x : Ext w2 => keepc x.bel y0
      have Y1 := fun x : Ext w2 => keepc x.bel y1
      clear y0 y1
      repeat (go_big_quiet_step ((first | (go_at_call 74; exact ext_of (HW.out _)) | (go_at_call 73; exact ext_of (HX.out _)))))
      refine wpQuiet_nil ?_
      rintro _ ⟨y, rfl⟩
      clear Y0 Y1 HW HX
      have hb3 := y.bel
      generalize y.w = w3 at hb3 ⊢
      have hB3 := hB2.trans (hb3.mono hB2.size)
      have E3 := E2.keep hb3
      have p0 := E3.cell 0
      have p1 := E3.cell 1
      have p2 := E3.fz 0
      have p3 := E3.fz 1
      have pl := E3.lt
      simp at p0 p1
      go_wp2_with fail
      refine bodyPost_ret (v := pointV ((rl, rh), 0)) (by simp [pointV, results, Try.results29, go_sem, p0, p1]) rfl ⟨by first | (rw [HR.out]; done) | (rw [HR.out]; rfl), ?_⟩
      repeat (first | exact hB3 | refine Below.setCell ?_ (by simp <;> omega) _ | refine Below.alloc ?_ (by simp <;> omega) _ | refine below_drewN ?_ _)

end Go.Proofs.Ythmngnfdfelkeaa
