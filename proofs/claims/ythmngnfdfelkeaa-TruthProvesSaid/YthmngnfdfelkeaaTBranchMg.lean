/-
  What is proved: the contract of (proof).branch, of the reference.
-/
import Derived.Test.YthmngnfdfelkeaaTChkPMg
import Derived.Test.YthmngnfdfelkeaaMg36
import Derived.Test.YthmngnfdfelkeaaLawAMg
import Derived.Laws.OwnMore
namespace Go.Proofs.Ythmngnfdfelkeaa
open Go.RowKit
attribute [local go_sem ↓] max_int min_int

theorem take_set_int (l : List Int) (n i : Nat) (x : Int) : (l.set i x).take n = (l.take n).set i x := List.take_set
theorem intCells_set (l : List Int) (i : Nat) (x : Int) : (intCells l).set i (.int .i64 x) = intCells (l.set i x) := by simp [intCells, List.map_set]
theorem row_b {w : World} {b o : Nat} {xs : List Value} (h : RowAt w (some ⟨b, o, none⟩) xs) (h0 : 0 < xs.length) : RowB w b o xs := by
  obtain ⟨b', o', e, h1⟩ := h.some_ h0
  have := Option.some.inj e
  simp only [Addr.mk.injEq, and_true] at this
  obtain ⟨rfl, rfl⟩ := this
  exact h1
theorem row_own {w : World} {base g n c : Nat} {xs : List Value} (h : w.ownsRow base 3 1 (.slice (some ⟨g, 0, none⟩) n c) n xs) : RowAt w (some ⟨g, 0, none⟩) xs := by
  obtain ⟨A, c', e1, _, h, _⟩ := own_form h
  injection e1 with e1 _
  rw [e1]; exact h

set_option maxRecDepth 100000 in
set_option maxHeartbeats 16000000 in
theorem branch_any (s : Stn) (z : Loc) (sum : Int) (hok : s.ok = true) (n : Nat) (p a wx wy : Int) (A : Option Addr) (c : Nat) (kids : List Tr) (hih : ∀ t ∈ kids, ChkAt s z sum n t) (hszz : sizeT (.mk 3 p a (wx, wy) A c kids) ≤ 1000000000)
    (q : Nat) (lo hi : List Int) (A1 A2 : Option Addr) (c1 c2 : Nat) (w : World) (hbx : BoxIn s lo hi) (ht : TrAt w q (.mk 3 p a (wx, wy) A c kids)) (hs : StAt w s z) (h1 : RowAt w A1 (intCells (lo.take s.pockets.length))) (h2 : RowAt w A2 (intCells (hi.take s.pockets.length))) :
    Calls Try.prog 128 #[.agg (proofA s z sum), .agg #[.int .i64 3, .int .i64 p, .int .i64 a, .int .i64 wx, .int .i64 wy, .slice A kids.length c], .slice A1 s.pockets.length c1, .slice A2 s.pockets.length c2] w
      fun e w' => e = .returned (.tuple #[.int .i64 (checkR s sum (n + 1) (.mk 3 p a (wx, wy) A c kids) lo hi).1, .bool (checkR s sum (n + 1) (.mk 3 p a (wx, wy) A c kids) lo hi).2]) ∧ Below w.heap.size w w' := by
  have hpl := (stn_ok hok).2.2.2.2.1
  have hb8 := hbx.ok hok
  have hbr : braB s p a (wx, wy) kids.length lo hi = ((wx == 0 && wy == 0) && ((kids.length : Int) == 2 && (inB p 0 ((s.pockets.length : Int) - 1) && (decide (lo.getD p.toNat 0 ≤ a) && decide (a < hi.getD p.toNat 0))))) := rfl
  have HN := wneq43
  obtain ⟨hr, hk, hno⟩ : RowNe w q A (kidCells kids) ∧ (∀ y ∈ kids, TrAt w q y) ∧ (A = none → kids = [] ∧ c = 0) := by
    cases ht with
    | mk a b c d => exact ⟨a, c, d⟩
  have HTR := Lib.hid (And.intro hr (And.intro hk (And.intro hs (And.intro h1 h2))))
  have HBX := Lib.hid (And.intro hbx (And.intro hb8 hpl))
  have HIH := Lib.hid (And.intro hih hszz)
  have HBR := Lib.hid hbr
  clear hr hk hno ht hih hszz hbr
  obtain ⟨mx, hmx⟩ : ∃ mx, momX s s.f.kinds.length = mx := ⟨_, rfl⟩
  obtain ⟨my, hmy⟩ : ∃ my, momY s s.f.kinds.length = my := ⟨_, rfl⟩
  have hpe : proofA s z sum = #[.int .i64 s.f.eye, .int .i64 s.f.rings, .int .i64 s.f.sec, .slice z.a1 s.f.kinds.length z.c1, .slice z.a2 s.heights.length z.c2, .slice z.a3 s.compass.length z.c3, .slice z.a4 s.pockets.length z.c4, .int .i64 s.tol, .int .i64 mx, .int .i64 my, .int .i64 sum] := by rw [proofA, hmx, hmy]; rfl
  have HPE := Lib.hid hpe
  rw [hpe]
  clear hmx hmy hpe
  obtain ⟨U, hU⟩ : ∃ U, (w.alloc (.cells #[.int .i64 s.f.eye, .int .i64 s.f.rings, .int .i64 s.f.sec, .slice z.a1 s.f.kinds.length z.c1, .slice z.a2 s.heights.length z.c2, .slice z.a3 s.compass.length z.c3, .slice z.a4 s.pockets.length z.c4, .int .i64 s.tol, .int .i64 mx, .int .i64 my, .int .i64 sum] 138)).alloc (.cells #[.int .i64 3, .int .i64 p, .int .i64 a, .int .i64 wx, .int .i64 wy, .slice A kids.length c] 49) = U := ⟨_, rfl⟩
  have B4 : Bk U w.heap.size 138 #[.int .i64 s.f.eye, .int .i64 s.f.rings, .int .i64 s.f.sec, .slice z.a1 s.f.kinds.length z.c1, .slice z.a2 s.heights.length z.c2, .slice z.a3 s.compass.length z.c3, .slice z.a4 s.pockets.length z.c4, .int .i64 s.tol, .int .i64 mx, .int .i64 my, .int .i64 sum] := by rw [← hU]; exact (bk_last rfl).alloc _
  have B5 : Bk U (w.heap.size + 1) 49 #[.int .i64 3, .int .i64 p, .int .i64 a, .int .i64 wx, .int .i64 wy, .slice A kids.length c] := by rw [← hU]; exact bk_last (by simp)
  have hB : Below w.heap.size w U := by rw [← hU]; exact ((Below.refl _ _).alloc (Nat.le_refl _) _).alloc (by simp) _
  have HU := Lib.hid hU
  clear hU
  cases e1 : (wx == 0 && wy == 0)
  · rw [e1] at HBR
    have HC : Hid (checkR s sum (n + 1) (.mk 3 p a (wx, wy) A c kids) lo hi = (0, false)) := checkR_none (by rw [HBR.out]; rfl)
    go_enter Try.func128, Try.ntmps128
    go_upto_region 1 with fail
    rw [HU.out]
    clear HU
    have t0 := B5.cell 0
    have t1 := B5.cell 1
    have t2 := B5.cell 2
    have t3 := B5.cell 3
    have t4 := B5.cell 4
    have t5 := B5.cell 5
    simp at t0 t1 t2 t3 t4 t5
    replace t0 := fun x : Ext U => keepc x.bel t0
    replace t1 := fun x : Ext U => keepc x.bel t1
    replace t2 := fun x : Ext U => keepc x.bel t2
    replace t3 := fun x : Ext U => keepc x.bel t3
    replace t4 := fun x : Ext U => keepc x.bel t4
    replace t5 := fun x : Ext U => keepc x.bel t5
    refine wp_region_ext (by kernel_rfl) (by kernel_rfl) ?_
    repeat (go_big_quiet_step (fail))
    refine wpQuiet_nil ?_
    rintro _ ⟨yy, rfl⟩
    clear t0 t1 t2 t3 t4 t5
    have hbw2 := yy.bel
    generalize yy.w = w2 at hbw2 ⊢
    replace hB := hB.trans (hbw2.mono hB.size)
    clear hbw2
    go_wp2_with fail
    go_ret2
    exact ⟨by rw [HC.out]; rfl, hB⟩
  · cases e2 : ((kids.length : Int) == 2)
    · rw [e1, e2] at HBR
      have HC : Hid (checkR s sum (n + 1) (.mk 3 p a (wx, wy) A c kids) lo hi = (0, false)) := checkR_none (by rw [HBR.out]; rfl)
      have e2n : ((kids.length : Int) != 2) = true := by simp only [bne, e2]; rfl
      go_enter Try.func128, Try.ntmps128
      go_upto_region 1 with fail
      rw [HU.out]
      clear HU
      have t0 := B5.cell 0
      have t1 := B5.cell 1
      have t2 := B5.cell 2
      have t3 := B5.cell 3
      have t4 := B5.cell 4
      have t5 := B5.cell 5
      simp at t0 t1 t2 t3 t4 t5
      replace t0 := fun x : Ext U => keepc x.bel t0
      replace t1 := fun x : Ext U => keepc x.bel t1
      replace t2 := fun x : Ext U => keepc x.bel t2
      replace t3 := fun x : Ext U => keepc x.bel t3
      replace t4 := fun x : Ext U => keepc x.bel t4
      replace t5 := fun x : Ext U => keepc x.bel t5
      refine wp_region_ext (by kernel_rfl) (by kernel_rfl) ?_
      repeat (go_big_quiet_step (fail))
      refine wpQuiet_nil ?_
      rintro _ ⟨yy, rfl⟩
      clear t0 t1 t2 t3 t4 t5
      have hbw2 := yy.bel
      generalize yy.w = w2 at hbw2 ⊢
      replace hB := hB.trans (hbw2.mono hB.size)
      clear hbw2
      go_wp2_with fail
      go_ret2
      exact ⟨by rw [HC.out]; rfl, hB⟩
    · have hlen : kids.length = 2 := by simp only [beq_iff_eq] at e2; omega
      generalize hkn : kids.length = kl at *
      obtain rfl : kl = 2 := by omega
      have HKN := Lib.hid hkn
      clear hkn hlen e2
      have e2 : (((2 : Nat) : Int) == 2) = true := rfl
      rw [e1, e2] at HBR
      clear e2
      have HW := Lib.hid (fun W : World => rwith_any p 0 ((s.pockets.length : Int) - 1) W)
      have hnI : (s.pockets.length : Int) ≤ 8 := by omega
      cases e3 : inB p 0 ((s.pockets.length : Int) - 1)
      · rw [e3] at HBR HW
        have HC : Hid (checkR s sum (n + 1) (.mk 3 p a (wx, wy) A c kids) lo hi = (0, false)) := checkR_none (by rw [HKN.out, HBR.out]; rfl)
        go_enter Try.func128, Try.ntmps128
        go_upto_region 1 with fail
        rw [HU.out]
        clear HU
        have t0 := B5.cell 0
        have t1 := B5.cell 1
        have t2 := B5.cell 2
        have t3 := B5.cell 3
        have t4 := B5.cell 4
        have t5 := B5.cell 5
        simp at t0 t1 t2 t3 t4 t5
        replace t0 := fun x : Ext U => keepc x.bel t0
        replace t1 := fun x : Ext U => keepc x.bel t1
        replace t2 := fun x : Ext U => keepc x.bel t2
        replace t3 := fun x : Ext U => keepc x.bel t3
        replace t4 := fun x : Ext U => keepc x.bel t4
        replace t5 := fun x : Ext U => keepc x.bel t5
        refine wp_region_ext (by kernel_rfl) (by kernel_rfl) ?_
        repeat (go_big_quiet_step ((go_at_call 70; exact ext_same (HW.out _))))
        refine wpQuiet_nil ?_
        rintro _ ⟨yy, rfl⟩
        clear t0 t1 t2 t3 t4 t5
        have hbw2 := yy.bel
        generalize yy.w = w2 at hbw2 ⊢
        replace hB := hB.trans (hbw2.mono hB.size)
        clear hbw2
        go_wp2_with fail
        go_ret2
        exact ⟨by rw [HC.out]; rfl, hB⟩
      · rw [e3] at HW
        have e3' := e3
        simp only [inB, decide_eq_true_eq] at e3'
        obtain ⟨pn, rfl⟩ : ∃ pn : Nat, p = pn := ⟨p.toNat, by omega⟩
        have hpN : pn < s.pockets.length := by omega
        have hpNI : (pn : Int) < s.pockets.length := by omega
        obtain ⟨b1, o1, hA1, hbl1, hc1⟩ := take_int h1 (by rw [hbx.1]; exact hpl) (by omega)
        obtain ⟨b2, o2, hA2, hbl2, hc2⟩ := take_int h2 (by rw [hbx.2.1]; exact hpl) (by omega)
        have g0 := hc1 pn hpN
        have g1 := hc2 pn hpN
        obtain ⟨lp, hlp⟩ : ∃ lp, lo.getD pn 0 = lp := ⟨_, rfl⟩
        obtain ⟨hp', hhp⟩ : ∃ hp', hi.getD pn 0 = hp' := ⟨_, rfl⟩
        rw [hlp] at g0
        rw [hhp] at g1
        have HLP := Lib.hid (And.intro hlp hhp)
        subst hA1 hA2
        clear hc1 hc2 hlp hhp hbx hb8 e3'
        cases e4 : decide (lp ≤ a)
        · have HC : Hid (checkR s sum (n + 1) (.mk 3 pn a (wx, wy) A c kids) lo hi = (0, false)) := checkR_none (by rw [HKN.out, HBR.out, e3, Int.toNat_natCast, HLP.out.1, e4]; rfl)
          have e4' : decide (a < lp) = true := by simp only [decide_eq_false_iff_not, decide_eq_true_eq] at e4 ⊢; omega
          go_enter Try.func128, Try.ntmps128
          go_upto_region 1 with fail
          rw [HU.out]
          clear HU
          have t0 := B5.cell 0
          have t1 := B5.cell 1
          have t2 := B5.cell 2
          have t3 := B5.cell 3
          have t4 := B5.cell 4
          have t5 := B5.cell 5
          simp at t0 t1 t2 t3 t4 t5
          replace t0 := fun x : Ext U => keepc x.bel t0
          replace t1 := fun x : Ext U => keepc x.bel t1
          replace t2 := fun x : Ext U => keepc x.bel t2
          replace t3 := fun x : Ext U => keepc x.bel t3
          replace t4 := fun x : Ext U => keepc x.bel t4
          replace t5 := fun x : Ext U => keepc x.bel t5
          replace g0 := fun x : Ext U => keepc x.bel (keepc hB g0)
          refine wp_region_ext (by kernel_rfl) (by kernel_rfl) ?_
          repeat (go_big_quiet_step ((go_at_call 70; exact ext_same (HW.out _))))
          refine wpQuiet_nil ?_
          rintro _ ⟨yy, rfl⟩
          clear t0 t1 t2 t3 t4 t5 g0
          have hbw2 := yy.bel
          generalize yy.w = w2 at hbw2 ⊢
          replace hB := hB.trans (hbw2.mono hB.size)
          clear hbw2
          go_wp2_with fail
          go_ret2
          exact ⟨by rw [HC.out]; rfl, hB⟩
        · have e4' : decide (a < lp) = false := by simp only [decide_eq_false_iff_not, decide_eq_true_eq] at e4 ⊢; omega
          cases e5 : decide (a < hp')
          · have HC : Hid (checkR s sum (n + 1) (.mk 3 pn a (wx, wy) A c kids) lo hi = (0, false)) := checkR_none (by rw [HKN.out, HBR.out, e3, Int.toNat_natCast, HLP.out.1, HLP.out.2, e4, e5]; rfl)
            have e5' : decide (a ≥ hp') = true := by simp only [decide_eq_false_iff_not, decide_eq_true_eq, ge_iff_le] at e5 ⊢; omega
            go_enter Try.func128, Try.ntmps128
            go_upto_region 1 with fail
            rw [HU.out]
            clear HU
            have t0 := B5.cell 0
            have t1 := B5.cell 1
            have t2 := B5.cell 2
            have t3 := B5.cell 3
            have t4 := B5.cell 4
            have t5 := B5.cell 5
            simp at t0 t1 t2 t3 t4 t5
            replace t0 := fun x : Ext U => keepc x.bel t0
            replace t1 := fun x : Ext U => keepc x.bel t1
            replace t2 := fun x : Ext U => keepc x.bel t2
            replace t3 := fun x : Ext U => keepc x.bel t3
            replace t4 := fun x : Ext U => keepc x.bel t4
            replace t5 := fun x : Ext U => keepc x.bel t5
            replace g0 := fun x : Ext U => keepc x.bel (keepc hB g0)
            replace g1 := fun x : Ext U => keepc x.bel (keepc hB g1)
            refine wp_region_ext (by kernel_rfl) (by kernel_rfl) ?_
            repeat (go_big_quiet_step ((go_at_call 70; exact ext_same (HW.out _))))
            refine wpQuiet_nil ?_
            rintro _ ⟨yy, rfl⟩
            clear t0 t1 t2 t3 t4 t5 g0 g1
            have hbw2 := yy.bel
            generalize yy.w = w2 at hbw2 ⊢
            replace hB := hB.trans (hbw2.mono hB.size)
            clear hbw2
            go_wp2_with fail
            go_ret2
            exact ⟨by rw [HC.out]; rfl, hB⟩
          · have e5' : decide (a ≥ hp') = false := by simp only [decide_eq_false_iff_not, decide_eq_true_eq, ge_iff_le] at e5 ⊢; omega
            have hbra : braB s (pn : Int) a (wx, wy) 2 lo hi = true := by rw [HBR.out, e3, Int.toNat_natCast, HLP.out.1, HLP.out.2, e4, e5]; rfl
            obtain ⟨kx, ky, hxy⟩ := list_two HKN.out
            have HXY := Lib.hid hxy
            have hxm : kx ∈ kids := by rw [hxy]; simp
            have hym : ky ∈ kids := by rw [hxy]; simp
            have e45 : lo.getD pn 0 ≤ a ∧ a < hi.getD pn 0 := by rw [HLP.out.1, HLP.out.2]; simp only [decide_eq_true_eq] at e4 e5; omega
            have hp8 : pn < 8 := by omega
            have hup : BoxIn s lo (hi.set pn a) := HBX.out.1.up hp8 e45.1 e45.2
            have hdn : BoxIn s (lo.set pn (a + 1)) hi := HBX.out.1.down hp8 e45.1 e45.2
            have hab : 0 ≤ a ∧ a ≤ 255 := by
              have h1 := HBX.out.2.1.2.2 pn hp8
              omega
            have hse : sizeT (.mk 3 pn a (wx, wy) A c kids) = 1 + sizeT kx + sizeT ky := by rw [hxy]; simp only [sizeT, sizeL]; omega
            have hck := checkR_two (s := s) (sum := sum) (p := (pn : Int)) (a := a) (n := n) (c := c) (way := (wx, wy)) (A := A) (x := kx) (y := ky) (lo := lo) (hi := hi) hbra
            rw [← hxy, Int.toNat_natCast] at hck
            have i3 := (checkR_spec s sum n kx lo (hi.set pn a)).2.2.1
            have i4 := (checkR_spec s sum n kx lo (hi.set pn a)).2.2.2
            have j3 := (checkR_spec s sum n ky (lo.set pn (a + 1)) hi).2.2.1
            have j4 := (checkR_spec s sum n ky (lo.set pn (a + 1)) hi).2.2.2
            have hszz := HIH.out.2
            rw [hse] at hszz
            have HX : Hid (∀ (A1 A2 : Option Addr) (c1 c2 : Nat) (W : World), Below w.heap.size w W → RowAt W A1 (intCells (lo.take s.pockets.length)) → RowAt W A2 (intCells ((hi.set pn a).take s.pockets.length)) → Calls Try.prog 104 #[.agg #[.int .i64 s.f.eye, .int .i64 s.f.rings, .int .i64 s.f.sec, .slice z.a1 s.f.kinds.length z.c1, .slice z.a2 s.heights.length z.c2, .slice z.a3 s.compass.length z.c3, .slice z.a4 s.pockets.length z.c4, .int .i64 s.tol, .int .i64 mx, .int .i64 my, .int .i64 sum], kx.val, .slice A1 s.pockets.length c1, .slice A2 s.pockets.length c2] W fun e w' => e = .returned (.tuple #[.int .i64 (checkR s sum n kx lo (hi.set pn a)).1, .bool (checkR s sum n kx lo (hi.set pn a)).2]) ∧ Below W.heap.size W w') := fun A1 A2 c1 c2 W h r1 r2 => by
              rw [← HPE.out]
              exact HIH.out.1 kx hxm q lo (hi.set pn a) A1 A2 c1 c2 W hup ((HTR.out.2.1 kx hxm).keep h) (HTR.out.2.2.1.below h) r1 r2
            have HY : Hid (∀ (A1 A2 : Option Addr) (c1 c2 : Nat) (W : World), Below w.heap.size w W → RowAt W A1 (intCells ((lo.set pn (a + 1)).take s.pockets.length)) → RowAt W A2 (intCells (hi.take s.pockets.length)) → Calls Try.prog 104 #[.agg #[.int .i64 s.f.eye, .int .i64 s.f.rings, .int .i64 s.f.sec, .slice z.a1 s.f.kinds.length z.c1, .slice z.a2 s.heights.length z.c2, .slice z.a3 s.compass.length z.c3, .slice z.a4 s.pockets.length z.c4, .int .i64 s.tol, .int .i64 mx, .int .i64 my, .int .i64 sum], ky.val, .slice A1 s.pockets.length c1, .slice A2 s.pockets.length c2] W fun e w' => e = .returned (.tuple #[.int .i64 (checkR s sum n ky (lo.set pn (a + 1)) hi).1, .bool (checkR s sum n ky (lo.set pn (a + 1)) hi).2]) ∧ Below W.heap.size W w') := fun A1 A2 c1 c2 W h r1 r2 => by
              rw [← HPE.out]
              exact HIH.out.1 ky hym q (lo.set pn (a + 1)) hi A1 A2 c1 c2 W hdn ((HTR.out.2.1 ky hym).keep h) (HTR.out.2.2.1.below h) r1 r2
            generalize checkR s sum n kx lo (hi.set pn a) = rx at *
            generalize checkR s sum n ky (lo.set pn (a + 1)) hi = ry at *
            obtain ⟨m1, ok1⟩ := rx
            obtain ⟨m2, ok2⟩ := ry
            simp only at hck i3 i4 j3 j4 HX HY
            have hms : 0 ≤ m1 + m2 ∧ m1 + m2 ≤ 1000000000 := by omega
            have hrow := HTR.out.1
            rw [hxy] at hrow
            have HCK := Lib.hid (And.intro hck hms)
            obtain ⟨xk, xp, xa, ⟨xwx, xwy⟩, xA, xc, xks⟩ := kx
            obtain ⟨yk, yp, ya, ⟨ywx, ywy⟩, yA, yc, yks⟩ := ky
            obtain ⟨b, off, hA, hbl, k0, k1, k2, k3, k4, k5⟩ := kid_cells (j := 0) hrow (by simp) rfl
            obtain ⟨b', off', hA', _, n0, n1, n2, n3, n4, n5⟩ := kid_cells (j := 1) hrow (by simp) rfl
            rw [hA] at hA'
            obtain ⟨rfl, rfl⟩ : b = b' ∧ off = off' := by
              have := Option.some.inj hA'
              simp only [Addr.mk.injEq, and_true] at this
              exact this
            subst hA
            simp only [Nat.zero_mul, Nat.add_zero, Nat.one_mul] at k0 k1 k2 k3 k4 k5 n0 n1 n2 n3 n4 n5
            have rb1 : RowB w b1 o1 (intCells (lo.take s.pockets.length)) := row_b h1 (by rw [intCells_len, List.length_take, HBX.out.1.1]; omega)
            have rb2 : RowB w b2 o2 (intCells (hi.take s.pockets.length)) := row_b h2 (by rw [intCells_len, List.length_take, HBX.out.1.2.1]; omega)
            have hl1 : (intCells (lo.take s.pockets.length)).length = s.pockets.length * 1 := by rw [intCells_len, List.length_take, HBX.out.1.1]; omega
            have hl2 : (intCells (hi.take s.pockets.length)).length = s.pockets.length * 1 := by rw [intCells_len, List.length_take, HBX.out.1.2.1]; omega
            have HK1 := Lib.hid (And.intro k0 (And.intro k1 (And.intro k2 (And.intro k3 (And.intro k4 k5)))))
            have HK2 := Lib.hid (And.intro n0 (And.intro n1 (And.intro n2 (And.intro n3 (And.intro n4 n5)))))
            have HRB := Lib.hid (And.intro rb1 (And.intro rb2 (And.intro hl1 hl2)))
            have HR12 := Lib.hid (And.intro h1 h2)
            have HTK := Lib.hid (And.intro (take_set_int hi s.pockets.length pn a) (take_set_int lo s.pockets.length pn (a + 1)))
            replace HX : Hid (∀ (A1 A2 : Option Addr) (c1 c2 : Nat) (W : World), Below w.heap.size w W → RowAt W A1 (intCells (lo.take s.pockets.length)) → RowAt W A2 (intCells ((hi.set pn a).take s.pockets.length)) → Calls Try.prog 104 #[.agg #[.int .i64 s.f.eye, .int .i64 s.f.rings, .int .i64 s.f.sec, .slice z.a1 s.f.kinds.length z.c1, .slice z.a2 s.heights.length z.c2, .slice z.a3 s.compass.length z.c3, .slice z.a4 s.pockets.length z.c4, .int .i64 s.tol, .int .i64 mx, .int .i64 my, .int .i64 sum], .agg #[.int .i64 xk, .int .i64 xp, .int .i64 xa, .int .i64 xwx, .int .i64 xwy, .slice xA xks.length xc], .slice A1 s.pockets.length c1, .slice A2 s.pockets.length c2] W fun e w' => e = .returned (.tuple #[.int .i64 m1, .bool ok1]) ∧ Below W.heap.size W w') := HX
            replace HY : Hid (∀ (A1 A2 : Option Addr) (c1 c2 : Nat) (W : World), Below w.heap.size w W → RowAt W A1 (intCells ((lo.set pn (a + 1)).take s.pockets.length)) → RowAt W A2 (intCells (hi.take s.pockets.length)) → Calls Try.prog 104 #[.agg #[.int .i64 s.f.eye, .int .i64 s.f.rings, .int .i64 s.f.sec, .slice z.a1 s.f.kinds.length z.c1, .slice z.a2 s.heights.length z.c2, .slice z.a3 s.compass.length z.c3, .slice z.a4 s.pockets.length z.c4, .int .i64 s.tol, .int .i64 mx, .int .i64 my, .int .i64 sum], .agg #[.int .i64 yk, .int .i64 yp, .int .i64 ya, .int .i64 ywx, .int .i64 ywy, .slice yA yks.length yc], .slice A1 s.pockets.length c1, .slice A2 s.pockets.length c2] W fun e w' => e = .returned (.tuple #[.int .i64 m2, .bool ok2]) ∧ Below W.heap.size W w') := HY
            have HAB := Lib.hid hab
            clear hxy hxm hym e45 hup hdn hse hck i3 i4 j3 j4 hszz hms hrow hA' k0 k1 k2 k3 k4 k5 n0 n1 n2 n3 n4 n5 rb1 rb2 hl1 hl2 h1 h2 hab e3 hbra
            obtain ⟨i0, hi0, hz0, hz1, hz2⟩ := info_parts intInfo
            go_enter Try.func128, Try.ntmps128
            go_upto_region 1 with fail
            rw [HU.out]
            clear HU
            have t0 := B5.cell 0
            have t1 := B5.cell 1
            have t2 := B5.cell 2
            have t3 := B5.cell 3
            have t4 := B5.cell 4
            have t5 := B5.cell 5
            simp at t0 t1 t2 t3 t4 t5
            replace t0 := fun x : Ext U => keepc x.bel t0
            replace t1 := fun x : Ext U => keepc x.bel t1
            replace t2 := fun x : Ext U => keepc x.bel t2
            replace t3 := fun x : Ext U => keepc x.bel t3
            replace t4 := fun x : Ext U => keepc x.bel t4
            replace t5 := fun x : Ext U => keepc x.bel t5
            replace g0 := fun x : Ext U => keepc x.bel (keepc hB g0)
            replace g1 := fun x : Ext U => keepc x.bel (keepc hB g1)
            refine wp_region_ext (by kernel_rfl) (by kernel_rfl) ?_
            repeat (go_big_quiet_step ((go_at_call 70; exact ext_same (HW.out _))))
            refine wpQuiet_nil ?_
            rintro _ ⟨yy, rfl⟩
            clear t0 t1 t2 t3 t4 t5 g0 g1
            have hbw2 := yy.bel
            generalize yy.w = w2 at hbw2 ⊢
            replace B4 := B4.keep hbw2
            replace B5 := B5.keep hbw2
            replace hB := hB.trans (hbw2.mono hB.size)
            clear hbw2
            clear HW HBR HN e4 e4' e5 e5'
            have hnews := (((HRB.out.2.1).keep hB).alloc (.cells #[] 3)).add
            have HE := Lib.hid (And.intro hnews (HRB.out.2.2.2))
            have E1 : Hid (0 + s.pockets.length ≤ maxLen ∧ (0 + s.pockets.length) * 8 ≤ 140737488355328) := ⟨by unfold maxLen; omega, by omega⟩
            have HO := Lib.hid (And.intro B4 (And.intro B5 hB))
            clear B4 B5 hB hnews
            go_upto_region 4 with (at_builtin; refine wpList_append_own _ rfl _ _ 22 rfl w2.heap.size 3 i0 _ 1 8 Try.underlying22 hi0 hz0 hz1 hz2 rfl (by decide) _ _ _ rfl (World.ownsRow_made w2 #[] 0 (Nat.le_refl _) (Nat.zero_le _) rfl) ⟨b2, o2, none⟩ s.pockets.length c2 (intCells (hi.take s.pockets.length)) rfl HE.out.2 HE.out.1 (intCells_one _) E1.out.1 E1.out.2 (by simp) ?_; intro v w3 hown hg _)
            rw [Nat.zero_add, List.nil_append] at hown
            obtain ⟨gb, gc, _, rfl, hgb, _⟩ := own_some hown (by omega)
            have hb3 : Below w2.heap.size w2 w3 := ((Below.refl _ _).alloc (Nat.le_refl _) (.cells #[] 3)).grown hg (by simp) (fun k hk => by have : w2.heap.size = k := Option.some.inj hk; omega)
            obtain ⟨B4, B5, hB⟩ := HO.out
            replace B4 := B4.keep hb3
            replace B5 := B5.keep hb3
            replace hB := hB.trans (hb3.mono hB.size)
            have hgw : w.heap.size + 2 ≤ gb := by have := HO.out.2.1.lt; omega
            obtain ⟨hst, hsg⟩ := hown.stored pn (.int .i64 a)
            rw [intCells_set, ← HTK.out.1] at hst
            have hrow := row_own hst
            have B4' := B4.far (p := ⟨gb, pn, none⟩) (by simp; omega) (.int .i64 a)
            have B5' := B5.far (p := ⟨gb, pn, none⟩) (by simp; omega) (.int .i64 a)
            have hB' := hB.setCell (p := ⟨gb, pn, none⟩) (by simp; omega) (.int .i64 a)
            have HO2 := Lib.hid (And.intro B4' (And.intro B5' (And.intro hB' hrow)))
            have t1 := B5.cell 1
            have t2 := B5.cell 2
            simp at t1 t2
            have hcx := hown.cellAt pn (by omega)
            have hpl' : pn < (intCells (hi.take s.pockets.length)).length := by rw [HRB.out.2.2.2]; omega
            rw [List.getElem?_eq_getElem hpl'] at hcx
            have hfz := hown.frozenAt pn
            have hgl := World.block_lt_of_cell? w3 _ hcx
            have hb5l := B5.lt
            clear hst hsg hrow B4' B5' hB' B4 B5 hB hown hg hb3 HO HE E1
            go_upto_region 5 with fail
            obtain ⟨B4, B5, hB, hrow⟩ := HO2.out
            generalize w3.setCell ⟨gb, pn, none⟩ (.int .i64 a) = w4 at *
            have t0 := B4.cell 0
            have t1 := B4.cell 1
            have t2 := B4.cell 2
            have t3 := B4.cell 3
            have t4 := B4.cell 4
            have t5 := B4.cell 5
            have t6 := B4.cell 6
            have t7 := B4.cell 7
            have t8 := B4.cell 8
            have t9 := B4.cell 9
            have t10 := B4.cell 10
            simp at t0 t1 t2 t3 t4 t5 t6 t7 t8 t9 t10
            have u5 := B5.cell 5
            simp at u5
            obtain ⟨k0, k1, k2, k3, k4, k5⟩ := HK1.out
            replace k0 := keepc hB k0
            replace k1 := keepc hB k1
            replace k2 := keepc hB k2
            replace k3 := keepc hB k3
            replace k4 := keepc hB k4
            replace k5 := keepc hB k5
            replace t0 := fun x : Ext w4 => keepc x.bel t0
            replace t1 := fun x : Ext w4 => keepc x.bel t1
            replace t2 := fun x : Ext w4 => keepc x.bel t2
            replace t3 := fun x : Ext w4 => keepc x.bel t3
            replace t4 := fun x : Ext w4 => keepc x.bel t4
            replace t5 := fun x : Ext w4 => keepc x.bel t5
            replace t6 := fun x : Ext w4 => keepc x.bel t6
            replace t7 := fun x : Ext w4 => keepc x.bel t7
            replace t8 := fun x : Ext w4 => keepc x.bel t8
            replace t9 := fun x : Ext w4 => keepc x.bel t9
            replace t10 := fun x : Ext w4 => keepc x.bel t10
            replace u5 := fun x : Ext w4 => keepc x.bel u5
            replace k0 := fun x : Ext w4 => keepc x.bel k0
            replace k1 := fun x : Ext w4 => keepc x.bel k1
            replace k2 := fun x : Ext w4 => keepc x.bel k2
            replace k3 := fun x : Ext w4 => keepc x.bel k3
            replace k4 := fun x : Ext w4 => keepc x.bel k4
            replace k5 := fun x : Ext w4 => keepc x.bel k5
            have HXx : Hid (∀ x : Ext w4, Calls Try.prog 104 #[.agg #[.int .i64 s.f.eye, .int .i64 s.f.rings, .int .i64 s.f.sec, .slice z.a1 s.f.kinds.length z.c1, .slice z.a2 s.heights.length z.c2, .slice z.a3 s.compass.length z.c3, .slice z.a4 s.pockets.length z.c4, .int .i64 s.tol, .int .i64 mx, .int .i64 my, .int .i64 sum], .agg #[.int .i64 xk, .int .i64 xp, .int .i64 xa, .int .i64 xwx, .int .i64 xwy, .slice xA xks.length xc], .slice (some ⟨b1, o1, none⟩) s.pockets.length c1, .slice (some ⟨gb, 0, none⟩) s.pockets.length gc] x.w fun e w' => e = .returned (.tuple #[.int .i64 m1, .bool ok1]) ∧ Below x.w.heap.size x.w w') := fun x => HX.out _ _ _ _ _ (hB.trans (x.bel.mono hB.size)) ((HR12.out.1.below hB).below x.bel) (hrow.below x.bel)
            clear HO2 hrow HX hcx hfz hgl hb5l hgw
            refine wp_region_ext (by kernel_rfl) (by kernel_rfl) ?_
            repeat (go_big_quiet_step ((go_at_call 104; exact ext_of (HXx.out _))))
            refine wpQuiet_nil ?_
            rintro _ ⟨yy, rfl⟩
            clear t0 t1 t2 t3 t4 t5 t6 t7 t8 t9 t10 u5 k0 k1 k2 k3 k4 k5
            have hbw5 := yy.bel
            generalize yy.w = w5 at hbw5 ⊢
            replace B4 := B4.keep hbw5
            replace B5 := B5.keep hbw5
            replace hB := hB.trans (hbw5.mono hB.size)
            clear hbw5
            clear HXx
            cases ok1
            · simp only [Bool.false_eq_true, if_false] at HCK
              go_wp2_with fail
              go_ret2
              exact ⟨by rw [HCK.out.1]; rfl, hB⟩
            · simp only [if_true] at HCK
              have hnews := (((HRB.out.1).keep hB).alloc (.cells #[] 3)).add
              have HE := Lib.hid (And.intro hnews (HRB.out.2.2.1))
              have E1 : Hid (0 + s.pockets.length ≤ maxLen ∧ (0 + s.pockets.length) * 8 ≤ 140737488355328) := ⟨by unfold maxLen; omega, by omega⟩
              have HO := Lib.hid (And.intro B4 (And.intro B5 hB))
              clear B4 B5 hB hnews
              go_upto_region 9 with (at_builtin; refine wpList_append_own _ rfl _ _ 22 rfl w5.heap.size 3 i0 _ 1 8 Try.underlying22 hi0 hz0 hz1 hz2 rfl (by decide) _ _ _ rfl (World.ownsRow_made w5 #[] 0 (Nat.le_refl _) (Nat.zero_le _) rfl) ⟨b1, o1, none⟩ s.pockets.length c1 (intCells (lo.take s.pockets.length)) rfl HE.out.2 HE.out.1 (intCells_one _) E1.out.1 E1.out.2 (by simp) ?_; intro v w6 hown hg _)
              rw [Nat.zero_add, List.nil_append] at hown
              obtain ⟨gb, gc, _, rfl, hgb, _⟩ := own_some hown (by omega)
              have hb3 : Below w5.heap.size w5 w6 := ((Below.refl _ _).alloc (Nat.le_refl _) (.cells #[] 3)).grown hg (by simp) (fun k hk => by have : w5.heap.size = k := Option.some.inj hk; omega)
              obtain ⟨B4, B5, hB⟩ := HO.out
              replace B4 := B4.keep hb3
              replace B5 := B5.keep hb3
              replace hB := hB.trans (hb3.mono hB.size)
              have hgw : w.heap.size + 2 ≤ gb := by have := HO.out.2.1.lt; omega
              obtain ⟨hst, hsg⟩ := hown.stored pn (.int .i64 (a + 1))
              rw [intCells_set, ← HTK.out.2] at hst
              have hrow := row_own hst
              have B4' := B4.far (p := ⟨gb, pn, none⟩) (by simp; omega) (.int .i64 (a + 1))
              have B5' := B5.far (p := ⟨gb, pn, none⟩) (by simp; omega) (.int .i64 (a + 1))
              have hB' := hB.setCell (p := ⟨gb, pn, none⟩) (by simp; omega) (.int .i64 (a + 1))
              have HO2 := Lib.hid (And.intro B4' (And.intro B5' (And.intro hB' hrow)))
              have t1 := B5.cell 1
              have t2 := B5.cell 2
              simp at t1 t2
              have hcx := hown.cellAt pn (by omega)
              have hpl' : pn < (intCells (lo.take s.pockets.length)).length := by rw [HRB.out.2.2.1]; omega
              rw [List.getElem?_eq_getElem hpl'] at hcx
              have hfz := hown.frozenAt pn
              have hgl := World.block_lt_of_cell? w6 _ hcx
              have hb5l := B5.lt
              clear hst hsg hrow B4' B5' hB' B4 B5 hB hown hg hb3 HO HE E1
              have hab := HAB.out
              have hwr := IntWalk.i64_in (a + 1) (by omega)
              go_upto_region 10 with fail
              obtain ⟨B4, B5, hB, hrow⟩ := HO2.out
              generalize w6.setCell ⟨gb, pn, none⟩ (.int .i64 (a + 1)) = w7 at *
              have t0 := B4.cell 0
              have t1 := B4.cell 1
              have t2 := B4.cell 2
              have t3 := B4.cell 3
              have t4 := B4.cell 4
              have t5 := B4.cell 5
              have t6 := B4.cell 6
              have t7 := B4.cell 7
              have t8 := B4.cell 8
              have t9 := B4.cell 9
              have t10 := B4.cell 10
              simp at t0 t1 t2 t3 t4 t5 t6 t7 t8 t9 t10
              have u5 := B5.cell 5
              simp at u5
              obtain ⟨k0, k1, k2, k3, k4, k5⟩ := HK2.out
              replace k0 := keepc hB k0
              replace k1 := keepc hB k1
              replace k2 := keepc hB k2
              replace k3 := keepc hB k3
              replace k4 := keepc hB k4
              replace k5 := keepc hB k5
              replace t0 := fun x : Ext w7 => keepc x.bel t0
              replace t1 := fun x : Ext w7 => keepc x.bel t1
              replace t2 := fun x : Ext w7 => keepc x.bel t2
              replace t3 := fun x : Ext w7 => keepc x.bel t3
              replace t4 := fun x : Ext w7 => keepc x.bel t4
              replace t5 := fun x : Ext w7 => keepc x.bel t5
              replace t6 := fun x : Ext w7 => keepc x.bel t6
              replace t7 := fun x : Ext w7 => keepc x.bel t7
              replace t8 := fun x : Ext w7 => keepc x.bel t8
              replace t9 := fun x : Ext w7 => keepc x.bel t9
              replace t10 := fun x : Ext w7 => keepc x.bel t10
              replace u5 := fun x : Ext w7 => keepc x.bel u5
              replace k0 := fun x : Ext w7 => keepc x.bel k0
              replace k1 := fun x : Ext w7 => keepc x.bel k1
              replace k2 := fun x : Ext w7 => keepc x.bel k2
              replace k3 := fun x : Ext w7 => keepc x.bel k3
              replace k4 := fun x : Ext w7 => keepc x.bel k4
              replace k5 := fun x : Ext w7 => keepc x.bel k5
              have HYx : Hid (∀ x : Ext w7, Calls Try.prog 104 #[.agg #[.int .i64 s.f.eye, .int .i64 s.f.rings, .int .i64 s.f.sec, .slice z.a1 s.f.kinds.length z.c1, .slice z.a2 s.heights.length z.c2, .slice z.a3 s.compass.length z.c3, .slice z.a4 s.pockets.length z.c4, .int .i64 s.tol, .int .i64 mx, .int .i64 my, .int .i64 sum], .agg #[.int .i64 yk, .int .i64 yp, .int .i64 ya, .int .i64 ywx, .int .i64 ywy, .slice yA yks.length yc], .slice (some ⟨gb, 0, none⟩) s.pockets.length gc, .slice (some ⟨b2, o2, none⟩) s.pockets.length c2] x.w fun e w' => e = .returned (.tuple #[.int .i64 m2, .bool ok2]) ∧ Below x.w.heap.size x.w w') := fun x => HY.out _ _ _ _ _ (hB.trans (x.bel.mono hB.size)) (hrow.below x.bel) ((HR12.out.2.below hB).below x.bel)
              clear HO2 hrow HY hcx hfz hgl hb5l hgw hab hwr
              refine wp_region_ext (by kernel_rfl) (by kernel_rfl) ?_
              repeat (go_big_quiet_step ((go_at_call 104; exact ext_of (HYx.out _))))
              refine wpQuiet_nil ?_
              rintro _ ⟨yy, rfl⟩
              clear t0 t1 t2 t3 t4 t5 t6 t7 t8 t9 t10 u5 k0 k1 k2 k3 k4 k5
              have hbw8 := yy.bel
              generalize yy.w = w8 at hbw8 ⊢
              replace B4 := B4.keep hbw8
              replace B5 := B5.keep hbw8
              replace hB := hB.trans (hbw8.mono hB.size)
              clear hbw8
              have hms := HCK.out.2
              have hwr := IntWalk.i64_in (m1 + m2) (by omega)
              go_wp2_with fail
              go_ret2
              exact ⟨by rw [HCK.out.1]; rfl, hB⟩

end Go.Proofs.Ythmngnfdfelkeaa
