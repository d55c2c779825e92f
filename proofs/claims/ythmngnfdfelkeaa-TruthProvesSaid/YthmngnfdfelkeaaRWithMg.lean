/-
  What is proved: the contracts of the reference's with, fits, isLead and asked.
-/
import Derived.Test.YthmngnfdfelkeaaRMomMg
import Derived.Test.YthmngnfdfelkeaaMg22
namespace Go.Proofs.Ythmngnfdfelkeaa
open Go.RowKit
attribute [local go_sem ↓] max_int min_int

set_option maxRecDepth 100000 in
set_option maxHeartbeats 4000000 in
theorem rwithM_any (s : Stn) (z : Loc) (A : Option Addr) (c : Nat) (l : List Int) (w : World) (hs : StAt w s z) (hok : s.ok = true) (hl : RowAt w A (intCells l)) (hlp : leadP s l) :
    Calls Try.prog 98 #[s.val z, .agg #[.int .i64 (momX s s.f.kinds.length), .int .i64 (momY s s.f.kinds.length)], .slice A l.length c] w fun e w' => e = .returned (.agg #[.int .i64 (withX s l l.length), .int .i64 (withY s l l.length)]) ∧ Below w.heap.size w w' := by
  have hln : l.length ≤ 8 := by have := (stn_ok hok).2.2.2.2.1; have := hlp.1; omega
  have HH := Lib.hid (And.intro hs (And.intro hok (And.intro hl hlp)))
  have e0 : momX s s.f.kinds.length = withX s l 0 := rfl
  have e1 : momY s s.f.kinds.length = withY s l 0 := rfl
  rw [e0, e1]
  unfold Stn.val
  obtain ⟨U, hU⟩ : ∃ U, ((w.alloc (.cells (s.cells z) 28)).alloc (.cells #[.int .i64 (withX s l 0), .int .i64 (withY s l 0)] 43)).alloc (.cells #[.int .i64 0, .int .i64 0] 43) = U := ⟨_, rfl⟩
  have HU := Lib.hid hU
  have X : Bk U w.heap.size 28 (s.cells z) := by rw [← hU]; exact ((bk_last rfl).alloc _).alloc _
  have M : Bk U (w.heap.size + 1) 43 #[.int .i64 (withX s l 0), .int .i64 (withY s l 0)] := by rw [← hU]; exact (bk_last (by simp)).alloc _
  have R : Bk U (w.heap.size + 1 + 1) 43 #[.int .i64 0, .int .i64 0] := by rw [← hU]; exact bk_last (by simp)
  have hB : Below w.heap.size w U := by
    rw [← hU]
    exact (((Below.refl _ _).alloc (Nat.le_refl _) _).alloc (by simp) _).alloc (by simp; omega) _
  clear hU hs hok hl hlp e0 e1
  unfold Stn.cells at HU
  unfold Stn.cells
  go_enter Try.func98, Try.ntmps98
  go_upto_region 2 with fail
  rw [HU.out]
  clear HU
  go_loopw [7] (fun i wr => ∃ k : Nat, k ≤ l.length ∧ i = .int .i64 k ∧ Bk wr w.heap.size 28 (s.cells z) ∧ Bk wr (w.heap.size + 1) 43 #[.int .i64 (withX s l k), .int .i64 (withY s l k)] ∧ Bk wr (w.heap.size + 1 + 1) 43 #[.int .i64 0, .int .i64 0] ∧ Below w.heap.size w wr) (fun i _ => l.length - (intOf i).toNat)
  case atStart => exact ⟨0, Nat.zero_le _, rfl, X, M, R, hB⟩
  case round =>
    clear X R M hB
    obtain ⟨k, hk, rfl, X, M, R, hB⟩ := hrel
    have m0 := M.cell 0
    have m1 := M.cell 1
    simp at m0 m1
    by_cases hlt : k < l.length
    · have hkI : (k : Int) < l.length := by omega
      have hkpI : (k : Int) < s.pockets.length := by have := HH.out.2.2.2.1; omega
      obtain ⟨_, _, _, _, _, _, x6, _⟩ := stn_cell0 X
      obtain ⟨b2, off2, hA2, hb2, hc2⟩ := (HH.out.2.2.1.below hB).intD (by omega)
      have d0 := hc2 k hlt
      obtain ⟨b, off, hA, hb, hc⟩ := (HH.out.1.below hB).pockets.pk (by omega)
      obtain ⟨c0, c1, _⟩ := hc k (by omega)
      have hw := with_bound HH.out.2.1 HH.out.2.2.2 k (by omega)
      have ht := term_bound HH.out.2.1 HH.out.2.2.2 hlt
      have HN : Hid (withX s l (k + 1) = withX s l k + l.getD k 0 * (s.pockets.getD k ((0, 0), 0)).1.1 ∧ withY s l (k + 1) = withY s l k + l.getD k 0 * (s.pockets.getD k ((0, 0), 0)).1.2) := by
        constructor
        · simp only [withX]; rw [Int.mul_comm]
        · simp only [withY]; rw [Int.mul_comm]
      rw [Int.mul_comm, Int.mul_comm (s.pockets.getD k ((0, 0), 0)).1.2] at ht
      rw [hA] at x6
      subst hA2
      clear hc hc2 hA
      generalize withX s l k = mx at *
      generalize withY s l k = my at *
      generalize s.pockets.getD k ((0, 0), 0) = p at *
      generalize l.getD k 0 = x at *
      obtain ⟨⟨px, py⟩, pm⟩ := p
      simp only at c0 c1 ht HN
      obtain ⟨⟨t1, t2⟩, t3, t4⟩ := ht
      have hw1 := IntWalk.i64_in (x * px) (by omega)
      have hw2 := IntWalk.i64_in (x * py) (by omega)
      have hw3 := IntWalk.i64_in (mx + x * px) (by omega)
      have hw4 := IntWalk.i64_in (my + x * py) (by omega)
      clear t1 t2 t3 t4 hw
      go_upto_region 4 with fail
      refine wp_region_extmix 31 (by kernel_rfl) (by kernel_rfl) (fun _ _ d _ _ h => by cases d <;> exact h) ?_
      simp only [List.take_succ_cons, List.take_zero, List.drop_succ_cons, List.drop_zero]
      have X6 := fun x : Ext wr => keepc x.bel x6
      have C0 := fun x : Ext wr => keepc x.bel c0
      have C1 := fun x : Ext wr => keepc x.bel c1
      have M0 := fun x : Ext wr => keepc x.bel m0
      have M1 := fun x : Ext wr => keepc x.bel m1
      have D0 := fun x : Ext wr => keepc x.bel d0
      clear x6 c0 c1 m0 m1 d0
      repeat (go_big_quiet_step (fail))
      refine wpQuiet_nil ?_
      rintro _ ⟨y, rfl⟩
      clear X6 C0 C1 M0 M1 D0
      have hb1 := y.bel
      generalize y.w = w2 at hb1 ⊢
      replace X := X.keep hb1
      replace M := M.keep hb1
      replace R := R.keep hb1
      replace hB := hB.trans (hb1.mono hB.size)
      have m0 := M.cell 0
      have m1 := M.cell 1
      have m2 := M.fz 0
      have m3 := M.fz 1
      simp at m0 m1
      have HX2 := Lib.hid ((X.far (p := ⟨w.heap.size + 1, 0, none⟩) (by simp) (.int .i64 (mx + x * px))).far (p := ⟨w.heap.size + 1, 1, none⟩) (by simp) (.int .i64 (my + x * py)))
      have HR2 := Lib.hid ((R.far (p := ⟨w.heap.size + 1, 0, none⟩) (by simp) (.int .i64 (mx + x * px))).far (p := ⟨w.heap.size + 1, 1, none⟩) (by simp) (.int .i64 (my + x * py)))
      have HM2 := Lib.hid ((M.put 0 (.int .i64 (mx + x * px))).put 1 (.int .i64 (my + x * py)))
      have HB2 := Lib.hid ((hB.setCell (p := ⟨w.heap.size + 1, 0, none⟩) (by simp) (.int .i64 (mx + x * px))).setCell (p := ⟨w.heap.size + 1, 1, none⟩) (by simp) (.int .i64 (my + x * py)))
      clear X M R hB hb1
      go_wp2_with fail
      go_roundw
      case rel => exact ⟨k + 1, by omega, by go_num, HX2.out, by rw [HN.out.1, HN.out.2]; exact HM2.out, HR2.out, HB2.out⟩
      case measure => simp [intOf]; omega
    · obtain rfl : k = l.length := by omega
      have r0 := R.cell 0
      have r1 := R.cell 1
      have r2 := R.fz 0
      have r3 := R.fz 1
      have rl := R.lt
      simp at r0 r1
      go_wp2_with fail
      refine bodyPost_ret (v := .agg #[.int .i64 (withX s l l.length), .int .i64 (withY s l l.length)]) (by simp [results, Try.results98, go_sem, r0, r1]) rfl ⟨rfl, ?_⟩
      repeat (first | exact hB | refine Below.setCell ?_ (by simp <;> omega) _)

set_option maxRecDepth 100000 in
set_option maxHeartbeats 2000000 in
theorem rfits_any (s : Stn) (z : Loc) (x y : Int) (w : World) (hok : s.ok = true) :
    Calls Try.prog 99 #[s.val z, .agg #[.int .i64 x, .int .i64 y]] w fun e w' => e = .returned (.bool (inB x (-s.tol) s.tol && inB y (-s.tol) s.tol)) ∧ Below w.heap.size w w' := by
  have t0 := (stn_ok hok).2.2.2.2.2.1
  have t1 := (stn_ok hok).2.2.2.2.2.2.1
  have HP := fun W => rpoint_any x y s.tol W (by omega)
  have hB : Below w.heap.size w ((w.alloc (.cells (s.cells z) 28)).alloc (.cells #[.int .i64 x, .int .i64 y] 43)) := ((Below.refl _ _).alloc (Nat.le_refl _) _).alloc (by simp) _
  clear hok t0 t1
  generalize (inB x (-s.tol) s.tol && inB y (-s.tol) s.tol) = b at *
  unfold Stn.val Stn.cells at *
  go_enter Try.func99, Try.ntmps99
  go_wp2_with (go_at_call 102; refine (HP _).mono ?_; rintro e w1 ⟨rfl, hb1⟩)
  go_ret
  exact ⟨rfl, hB.trans (hb1.mono hB.size)⟩

set_option maxRecDepth 100000 in
set_option maxHeartbeats 4000000 in
theorem risLead_any (s : Stn) (z : Loc) (A : Option Addr) (c : Nat) (l : List Int) (w : World) (hs : StAt w s z) (hl : RowAt w A (intCells l)) (hn : l.length ≤ 9223372036854775807) :
    Calls Try.prog 124 #[s.val z, .slice A l.length c] w fun e w' => e = .returned (.bool (leadB s l)) ∧ Below w.heap.size w w' := by
  have n4 := hs.n4
  obtain ⟨X, hs1, hB⟩ := box_stn hs
  have hl1 : RowAt (w.alloc (.cells #[.int .i64 s.f.eye, .int .i64 s.f.rings, .int .i64 s.f.sec, .slice z.a1 s.f.kinds.length z.c1, .slice z.a2 s.heights.length z.c2, .slice z.a3 s.compass.length z.c3, .slice z.a4 s.pockets.length z.c4, .int .i64 s.tol] 28)) A (intCells l) := hl.alloc _
  have HW := fun (n lo hi : Int) (W : World) => rwith_any n lo hi W
  unfold Stn.val Stn.cells
  go_enter Try.func124, Try.ntmps124
  go_upto_region 1 with fail
  generalize w.alloc (.cells _ 28) = V at *
  obtain ⟨x0, x1, x2, x3, x4, x5, x6, x7⟩ := stn_cell0 X
  by_cases he : l.length = s.pockets.length
  · have hq : ((l.length : Int) != s.pockets.length) = false := by simp [he]
    have HE := Lib.hid he
    clear he x0 x1 x2 x3 x4 x5 x7
    go_upto_region 4 with fail
    go_loopw [5] (fun i wr => ∃ k : Nat, k ≤ l.length ∧ i = .int .i64 k ∧ Hid (∀ j, j < k → 0 ≤ l.getD j 0 ∧ l.getD j 0 ≤ (s.pockets.getD j ((0, 0), 0)).2) ∧ Below V.heap.size V wr) (fun i _ => l.length - (intOf i).toNat)
    case atStart => exact ⟨0, Nat.zero_le _, rfl, fun j h => absurd h (by omega), Below.refl _ _⟩
    case round =>
      obtain ⟨k, hk, rfl, HG, hBr⟩ := hrel
      have y6 := keepc hBr x6
      by_cases hlt : k < l.length
      · have hkI : (k : Int) < l.length := by omega
        have hkP : k < s.pockets.length := by have := HE.out; omega
        have hkPI : (k : Int) < s.pockets.length := by omega
        obtain ⟨b2, o2, rfl, hb2, hc2⟩ := hl1.intD (by omega)
        obtain ⟨b, off, hA, hb, hc⟩ := hs1.pockets.pk (by omega)
        obtain ⟨_, _, c2⟩ := hc k hkP
        have d0 := keepc hBr (hc2 k hlt)
        have c2' := keepc hBr c2
        have HBAD : Hid (inB (l.getD k 0) 0 (s.pockets.getD k ((0, 0), 0)).2 = false → leadB s l = false) := fun h => leadB_bad hlt (.inr (by have h' := of_decide_eq_false h; omega))
        have HGK : Hid (inB (l.getD k 0) 0 (s.pockets.getD k ((0, 0), 0)).2 = true → ∀ j, j < k + 1 → 0 ≤ l.getD j 0 ∧ l.getD j 0 ≤ (s.pockets.getD j ((0, 0), 0)).2) := fun h j hj => by
          by_cases e : j = k
          · rw [e]; exact of_decide_eq_true h
          · exact HG.out j (by omega)
        rw [hA] at y6
        clear hc hc2 hA c2 HG
        generalize l.getD k 0 = x at *
        generalize (s.pockets.getD k ((0, 0), 0)).2 = y at *
        obtain ⟨bb, hbb⟩ : ∃ b, inB x 0 y = b := ⟨_, rfl⟩
        have HWX : Hid (∀ v : Ext wr, Calls Try.prog 70 #[.int .i64 x, .int .i64 0, .int .i64 y] v.w fun e w' => e = .returned (.bool bb) ∧ v.w = w') := fun v => by rw [← hbb]; exact rwith_any x 0 y v.w
        go_upto_region 6 with fail
        refine wp_region_ext (by kernel_rfl) (by kernel_rfl) ?_
        have Y6 := fun v : Ext wr => keepc v.bel y6
        have C2 := fun v : Ext wr => keepc v.bel c2'
        have D0 := fun v : Ext wr => keepc v.bel d0
        clear y6 c2' d0
        repeat (go_big_quiet_step ((go_at_call 70; exact ext_same (HWX.out _))))
        refine wpQuiet_nil ?_
        rintro _ ⟨v, rfl⟩
        clear Y6 C2 D0 HWX
        have hb1 := v.bel
        generalize v.w = w2 at hb1 ⊢
        have hB2 := hBr.trans (hb1.mono hBr.size)
        cases bb
        · have HR := Lib.hid (HBAD.out hbb)
          clear hbb HBAD HGK
          go_wp2_with fail
          go_ret
          exact ⟨by first | (rw [HR.out]; done) | (rw [HR.out]; rfl), hB.trans (hB2.mono hB.size)⟩
        · have HG2 := Lib.hid (HGK.out hbb)
          clear hbb HBAD HGK
          go_wp2_with fail
          go_roundw
          case rel => exact ⟨k + 1, by omega, by go_num, HG2, hB2⟩
          case measure => simp [intOf]; omega
      · obtain rfl : k = l.length := by omega
        have HR : Hid (leadB s l = true) := (leadB_iff s l).2 ⟨HE.out, HG.out⟩
        go_wp2_with fail
        go_ret
        exact ⟨by first | (rw [HR.out]; done) | (rw [HR.out]; rfl), hB.trans (hBr.mono hB.size)⟩
  · have hq : ((l.length : Int) != s.pockets.length) = true := by simp; omega
    have HR : Hid (leadB s l = false) := by
      refine Lib.hid ?_
      rw [← Bool.not_eq_true, leadB_iff]
      exact fun h => he h.1
    clear he
    go_wp2_with fail
    go_ret
    exact ⟨by first | (rw [HR.out]; done) | (rw [HR.out]; rfl), hB⟩

/-- The error of a stone and a lead. -/
def askedE (s : Stn) (l : List Int) : Int := if s.ok then if leadB s l then 0 else 62 else 60

set_option maxRecDepth 100000 in
set_option maxHeartbeats 4000000 in
theorem rasked_any (s : Stn) (z : Loc) (A : Option Addr) (c : Nat) (l : List Int) (w : World) (hs : StAt w s z) (hl : RowAt w A (intCells l)) (hn : l.length ≤ 9223372036854775807) :
    Calls Try.prog 97 #[s.val z, .slice A l.length c] w fun e w' => e = .returned (.int .i64 (askedE s l)) ∧ Below w.heap.size w w' := by
  have HC : Hid (∀ W, StAt W s z → Calls Try.prog 51 #[.agg (s.cells z)] W fun e w' => e = .returned (.int .i64 (checkE s)) ∧ Below W.heap.size W w') := fun W h => rcheck_any s z W h
  have HL : Hid (∀ W, Below w.heap.size w W → Calls Try.prog 124 #[.agg (s.cells z), .slice A l.length c] W fun e w' => e = .returned (.bool (leadB s l)) ∧ Below W.heap.size W w') := fun W h => risLead_any s z A c l W (hs.below h) (hl.below h) hn
  obtain ⟨X, hs1, hB⟩ := box_stn hs
  unfold Stn.cells at HC HL
  unfold Stn.val Stn.cells
  go_enter Try.func97, Try.ntmps97
  go_wp2_with fail
  generalize w.alloc (.cells _ 28) = V at *
  refine (HC.out _ hs1).mono ?_
  rintro e w1 ⟨rfl, hb1⟩
  have hB1 := hB.trans (hb1.mono hB.size)
  obtain ⟨x0, x1, x2, x3, x4, x5, x6, x7⟩ := stn_cell0 (X.keep hb1)
  cases hok : s.ok
  · have HR := Lib.hid (show askedE s l = 60 by simp [askedE, hok])
    rw [show checkE s = 60 by simp [checkE, hok]]
    clear hok
    go_wp2_with fail
    go_ret
    exact ⟨by first | (rw [HR.out]; done) | (rw [HR.out]; rfl), hB1⟩
  · rw [show checkE s = 0 by simp [checkE, hok]]
    cases hb : leadB s l
    · have HR := Lib.hid (show askedE s l = 62 by simp [askedE, hok, hb])
      rw [hb] at HL
      clear hok hb
      go_wp2_with (go_at_call 124; refine (HL.out _ hB1).mono ?_; rintro e w2 ⟨rfl, hb2⟩)
      go_ret
      exact ⟨by first | (rw [HR.out]; done) | (rw [HR.out]; rfl), hB1.trans (hb2.mono hB1.size)⟩
    · have HR := Lib.hid (show askedE s l = 0 by simp [askedE, hok, hb])
      rw [hb] at HL
      clear hok hb
      go_wp2_with (go_at_call 124; refine (HL.out _ hB1).mono ?_; rintro e w2 ⟨rfl, hb2⟩)
      go_ret
      exact ⟨by first | (rw [HR.out]; done) | (rw [HR.out]; rfl), hB1.trans (hb2.mono hB1.size)⟩

end Go.Proofs.Ythmngnfdfelkeaa
