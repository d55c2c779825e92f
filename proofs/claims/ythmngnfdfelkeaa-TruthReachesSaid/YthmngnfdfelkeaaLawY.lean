/-
  What is proved: TruthReaches answers true.
-/
import Derived.Test.YthmngnfdfelkeaaAwake
import Derived.Test.YthmngnfdfelkeaaReachP
import Derived.Test.YthmngnfdfelkeaaArgAsk
import Derived.Test.YthmngnfdfelkeaaLeadT
import Derived.Maps.AppendAt
namespace Go.Proofs.Ythmngnfdfelkeaa
open Go.RowKit
attribute [local go_sem ↓] max_int min_int

theorem along_small (way p : Int × Int) (w : World) (hw : WayOk way) (hp : (-1000000000000000 ≤ p.1 ∧ p.1 ≤ 1000000000000000) ∧ -1000000000000000 ≤ p.2 ∧ p.2 ≤ 1000000000000000) :
    Calls Try.prog 44 #[.agg #[.int .i64 way.1, .int .i64 way.2], .agg #[.int .i64 p.1, .int .i64 p.2]] w fun e w' => e = .returned (.int .i64 (alongV way p)) ∧ Below w.heap.size w w' := by
  have h1 := abs_mul (x := way.1) (y := p.1) (a := 100) (b := 1000000000000000) hw.1 (by omega)
  have h2 := abs_mul (x := way.2) (y := p.2) (a := 100) (b := 1000000000000000) hw.2 (by omega)
  exact along_any way.1 way.2 p.1 p.2 w (by omega) (by omega) (by omega)

theorem row_of_own {w : World} {base : Nat} {e : TypeId} {A : Option Addr} {n c : Nat} {xs : List Value} (h : w.ownsRow base e 1 (.slice A n c) n xs) : RowAt w A xs := by
  obtain ⟨A', c', e1, _, hr, _⟩ := own_form h
  injection e1 with e1 _
  rw [e1]
  exact hr

set_option maxRecDepth 100000 in
set_option maxHeartbeats 16000000 in
theorem reaches_law (s : Stn) (z : Loc) (cell : Int) (A : Option Addr) (c : Nat) (lead : List Int) (way : Int × Int) (sum : Int) (t0 t1 t2 t3 t4 t5 : Value) (w : World) (hs : StAt w s z) (hm : RowAt w A (intCells lead)) (hn : lead.length ≤ 9223372036854775807) :
    Calls Try.prog 11 #[s.val z, .agg (askA cell A c lead way sum t0 t1 t2 t3 t4 t5)] w fun e w' => e = .returned (.bool true) ∧ Below w.heap.size w w' := by
  obtain ⟨i0, hi0, hz0, hz1, hz2⟩ := info_parts intInfo
  have T0 : Bk ((w.alloc (.cells (s.cells z) 28)).alloc (.cells (askA cell A c lead way sum t0 t1 t2 t3 t4 t5) 51)) w.heap.size 28 (s.cells z) := (bk_last rfl).alloc _
  have Q0 : Bk ((w.alloc (.cells (s.cells z) 28)).alloc (.cells (askA cell A c lead way sum t0 t1 t2 t3 t4 t5) 51)) (w.heap.size + 1) 51 (askA cell A c lead way sum t0 t1 t2 t3 t4 t5) := bk_last (by simp)
  have hB0 : Below w.heap.size w ((w.alloc (.cells (s.cells z) 28)).alloc (.cells (askA cell A c lead way sum t0 t1 t2 t3 t4 t5) 51)) := ((Below.refl _ _).alloc (Nat.le_refl _) _).alloc (by simp) _
  have H16 : Hid (∀ W, Below w.heap.size w W → Calls Try.prog 16 #[.agg (s.cells z)] W fun e w' => e = .returned (.bool (smallB s)) ∧ Below W.heap.size W w') := fun W h => small_any s z W (hs.below h)
  have H29 : Hid (∀ W, Below w.heap.size w W → Calls Try.prog 29 #[.agg (s.cells z), .agg #[.int .i64 way.1, .int .i64 way.2]] W fun e w' => e = .returned (.tuple #[.agg #[.int .i64 (reachR s way).1.1, .int .i64 (reachR s way).1.2], .int .i64 (reachR s way).2]) ∧ Below W.heap.size W w') := fun W h => reachT_any s z way W (hs.below h)
  have H29b : Hid (∀ W, Below w.heap.size w W → Calls Try.prog 29 #[.agg (s.cells z), .agg #[.int .i64 (apartR s).1.1, .int .i64 (apartR s).1.2]] W fun e w' => e = .returned (.tuple #[.agg #[.int .i64 (reachR s (apartR s).1).1.1, .int .i64 (reachR s (apartR s).1).1.2], .int .i64 (reachR s (apartR s).1).2]) ∧ Below W.heap.size W w') := fun W h => reachT_any s z (apartR s).1 W (hs.below h)
  have H43 : Hid (∀ W, Below w.heap.size w W → Calls Try.prog 43 #[.agg (s.cells z), .slice A lead.length c] W fun e w' => e = .returned (.tuple #[.agg #[.int .i64 (withR s lead).1.1, .int .i64 (withR s lead).1.2], .int .i64 (withR s lead).2]) ∧ Below W.heap.size W w') := fun W h => withT_any s z A c lead W (hs.below h) (hm.below h) hn
  have H33 : Hid (∀ W, Below w.heap.size w W → Calls Try.prog 33 #[.agg (s.cells z), .slice A lead.length c] W fun e w' => e = .returned (.tuple #[.bool (balR s lead).1, .int .i64 (balR s lead).2]) ∧ Below W.heap.size W w') := fun W h => bal_any s z A c lead W (hs.below h) (hm.below h) hn
  have H31 : Hid (∀ W, Below w.heap.size w W → Calls Try.prog 31 #[.agg (s.cells z)] W fun e w' => e = .returned (.tuple #[.agg #[.int .i64 (apartR s).1.1, .int .i64 (apartR s).1.2], .int .i64 (apartR s).2]) ∧ Below W.heap.size W w') := fun W h => apartT_any s z W (hs.below h)
  have HL : Hid (∀ W (A' : Option Addr) (c' : Nat), Below w.heap.size w W → s.pockets.length ≤ 8 → RowAt W A' (intCells (endL s lowC way s.pockets.length)) → Calls Try.prog 43 #[.agg (s.cells z), .slice A' s.pockets.length c'] W fun e w' => e = .returned (.tuple #[.agg #[.int .i64 (withR s (endL s lowC way s.pockets.length)).1.1, .int .i64 (withR s (endL s lowC way s.pockets.length)).1.2], .int .i64 (withR s (endL s lowC way s.pockets.length)).2]) ∧ Below W.heap.size W w') := fun W A' c' h h8 hr => by
    have h1 := withT_any s z A' c' (endL s lowC way s.pockets.length) W (hs.below h) hr (by rw [endL_len]; omega)
    rw [endL_len] at h1
    exact h1
  have HH : Hid (∀ W (A' : Option Addr) (c' : Nat), Below w.heap.size w W → s.pockets.length ≤ 8 → RowAt W A' (intCells (endL s highC way s.pockets.length)) → Calls Try.prog 43 #[.agg (s.cells z), .slice A' s.pockets.length c'] W fun e w' => e = .returned (.tuple #[.agg #[.int .i64 (withR s (endL s highC way s.pockets.length)).1.1, .int .i64 (withR s (endL s highC way s.pockets.length)).1.2], .int .i64 (withR s (endL s highC way s.pockets.length)).2]) ∧ Below W.heap.size W w') := fun W A' c' h h8 hr => by
    have h1 := withT_any s z A' c' (endL s highC way s.pockets.length) W (hs.below h) hr (by rw [endL_len]; omega)
    rw [endL_len] at h1
    exact h1
  have HF := Lib.hid (reach_facts s way lead)
  have HPK : Hid (s.ok = true → ∀ k, k < s.pockets.length → (-1000000000000000 ≤ (s.pockets.getD k ((0, 0), 0)).1.1 ∧ (s.pockets.getD k ((0, 0), 0)).1.1 ≤ 1000000000000000) ∧ -1000000000000000 ≤ (s.pockets.getD k ((0, 0), 0)).1.2 ∧ (s.pockets.getD k ((0, 0), 0)).1.2 ≤ 1000000000000000) := fun hok k hk => by
    obtain ⟨_, _, _, _, _, _, _, _, hp⟩ := stn_ok hok
    have := (hp _ (getD_mem ((0, 0), 0) hk)).1
    omega
  have HS8 : Hid (s.ok = true → s.pockets.length ≤ 8) := fun hok => (stn_ok hok).2.2.2.2.1
  unfold Stn.cells askA at *
  unfold Stn.val Stn.cells
  generalize smallB s = sm at *
  generalize hrr : reachR s (apartR s).1 = zz at *
  have HZ : Hid ((apartR s).2 = 0 → zz.2 = 0 ∧ s.tol * (max (apartR s).1.1 (-(apartR s).1.1) + max (apartR s).1.2 (-(apartR s).1.2)) < zz.1.1) := by
    rw [← hrr]
    exact HF.out.far
  clear hrr
  generalize reachR s way = rr at *
  generalize withR s lead = wi at *
  generalize balR s lead = bl at *
  have HF1 := Lib.hid HF.out.ok
  have HF2 := Lib.hid HF.out.inn
  have HF3 := Lib.hid HF.out.bal
  have HF4 := Lib.hid HF.out.wok
  have HF5 := Lib.hid HF.out.low
  have HF6 := Lib.hid HF.out.high
  have HF7 := Lib.hid HF.out.lowb
  have HF8 := Lib.hid HF.out.highb
  have HF9 := Lib.hid HF.out.same
  have HF10 := Lib.hid HF.out.tol
  clear HF
  generalize apartR s = ap at *
  generalize withR s (endL s lowC way s.pockets.length) = wl at *
  generalize withR s (endL s highC way s.pockets.length) = wh at *
  obtain ⟨⟨r1, r2⟩, r3⟩ := rr
  obtain ⟨⟨i1, i2⟩, i3⟩ := wi
  obtain ⟨b1, b2⟩ := bl
  obtain ⟨⟨p1, p2⟩, p3⟩ := ap
  obtain ⟨⟨z1, z2⟩, z3⟩ := zz
  obtain ⟨⟨l1, l2⟩, l3⟩ := wl
  obtain ⟨⟨g1, g2⟩, g3⟩ := wh
  obtain ⟨wx, wy⟩ := way
  simp only at H29 H29b H43 H33 H31 HL HH HF1 HF2 HF3 HF4 HF5 HF6 HF7 HF8 HF9 HF10 HZ
  obtain rfl : i3 = b2 := HF9.out
  clear HF9
  have HA : Hid (∀ W, WayOk (wx, wy) → (-1000000000000000 ≤ i1 ∧ i1 ≤ 1000000000000000) ∧ -1000000000000000 ≤ i2 ∧ i2 ≤ 1000000000000000 → Calls Try.prog 44 #[.agg #[.int .i64 wx, .int .i64 wy], .agg #[.int .i64 i1, .int .i64 i2]] W fun e w' => e = .returned (.int .i64 (alongV (wx, wy) (i1, i2))) ∧ Below W.heap.size W w') := fun W h1 h2 => along_small (wx, wy) (i1, i2) W h1 h2
  go_enter Try.func11, Try.ntmps11
  go_wp2_with fail
  generalize (w.alloc (.cells _ 28)).alloc (.cells _ 51) = V at *
  refine (awake_any _).mono ?_
  rintro e w1 ⟨rfl, hb1⟩
  have T1 : Bk w1 w.heap.size 28 (s.cells z) := T0.keep hb1
  have Q1 := Q0.keep hb1
  have hB1 := hB0.trans (hb1.mono hB0.size)
  clear T0 Q0 hB0 hb1
  obtain ⟨x0, x1, x2, x3, x4, x5, x6, x7⟩ := stn_cell0 T1
  have a1 := Q1.cell 1
  have a2 := Q1.cell 2
  have a3 := Q1.cell 3
  simp at a1 a2 a3
  cases sm
  · go_wp2_with (go_at_call 16; refine (H16.out _ hB1).mono ?_; rintro e w2 ⟨rfl, hb2⟩)
    go_ret
    exact ⟨rfl, hB1.trans (hb2.mono hB1.size)⟩
  · go_wp2_with fail
    refine (H16.out _ hB1).mono ?_
    rintro e w2 ⟨rfl, hb2⟩
    have T2 : Bk w2 w.heap.size 28 (s.cells z) := T1.keep hb2
    have Q2 := Q1.keep hb2
    have hB2 := hB1.trans (hb2.mono hB1.size)
    clear T1 Q1 hB1 hb2 H16 x0 x1 x2 x3 x4 x5 x6 x7 a1 a2 a3
    obtain ⟨x0, x1, x2, x3, x4, x5, x6, x7⟩ := stn_cell0 T2
    have a1 := Q2.cell 1
    have a2 := Q2.cell 2
    have a3 := Q2.cell 3
    simp at a1 a2 a3
    by_cases m3 : (lead.length : Int) ≤ 40
    · go_wp2_with fail
      refine (H29.out _ hB2).mono ?_
      rintro e w3 ⟨rfl, hb3⟩
      have T3 : Bk w3 w.heap.size 28 (s.cells z) := T2.keep hb3
      have Q3 := Q2.keep hb3
      have hB3 := hB2.trans (hb3.mono hB2.size)
      clear T2 Q2 hB2 hb3 H29 x0 x1 x2 x3 x4 x5 x6 x7 a1 a2 a3
      obtain ⟨x0, x1, x2, x3, x4, x5, x6, x7⟩ := stn_cell0 T3
      have a1 := Q3.cell 1
      have a2 := Q3.cell 2
      have a3 := Q3.cell 3
      simp at a1 a2 a3
      have R3 : Bk (w3.alloc (.cells #[.int .i64 r1, .int .i64 r2] 53)) w3.heap.size 53 #[.int .i64 r1, .int .i64 r2] := bk_last rfl
      have hC3 := hB3.alloc hB3.size (.cells #[.int .i64 r1, .int .i64 r2] 53)
      have Tl := T3.lt
      have Ql := Q3.lt
      go_wp2_with fail
      refine (H43.out _ hC3).mono ?_
      rintro e w4 ⟨rfl, hb4⟩
      have T4 : Bk w4 w.heap.size 28 (s.cells z) := (T3.alloc _).keep hb4
      have Q4 := (Q3.alloc _).keep hb4
      have R4 := R3.keep hb4
      have hB4 := hC3.trans (hb4.mono hC3.size)
      clear T3 Q3 R3 hB3 hC3 hb4 H43 x0 x1 x2 x3 x4 x5 x6 x7 a1 a2 a3 Tl Ql
      obtain ⟨x0, x1, x2, x3, x4, x5, x6, x7⟩ := stn_cell0 T4
      have a1 := Q4.cell 1
      have a2 := Q4.cell 2
      have a3 := Q4.cell 3
      simp at a1 a2 a3
      have M4 : Bk (w4.alloc (.cells #[.int .i64 i1, .int .i64 i2] 43)) w4.heap.size 43 #[.int .i64 i1, .int .i64 i2] := bk_last rfl
      have hC4 := hB4.alloc hB4.size (.cells #[.int .i64 i1, .int .i64 i2] 43)
      have Tl := T4.lt
      have Ql := Q4.lt
      go_wp2_with fail
      refine (H33.out _ hC4).mono ?_
      rintro e w5 ⟨rfl, hb5⟩
      have T5 : Bk w5 w.heap.size 28 (s.cells z) := (T4.alloc _).keep hb5
      have Q5 := (Q4.alloc _).keep hb5
      have R5 := (R4.alloc _).keep hb5
      have M5 := M4.keep hb5
      have hB5 := hC4.trans (hb5.mono hC4.size)
      clear T4 Q4 R4 M4 hB4 hC4 hb5 H33 x0 x1 x2 x3 x4 x5 x6 x7 a1 a2 a3 Tl Ql
      obtain ⟨x0, x1, x2, x3, x4, x5, x6, x7⟩ := stn_cell0 T5
      have a1 := Q5.cell 1
      have a2 := Q5.cell 2
      have a3 := Q5.cell 3
      simp at a1 a2 a3
      go_wp2_with fail
      refine (H31.out _ hB5).mono ?_
      rintro e w6 ⟨rfl, hb6⟩
      have T6 : Bk w6 w.heap.size 28 (s.cells z) := T5.keep hb6
      have Q6 := Q5.keep hb6
      have R6 := R5.keep hb6
      have M6 := M5.keep hb6
      have hB6 := hB5.trans (hb6.mono hB5.size)
      clear T5 Q5 R5 M5 hB5 hb6 H31 x0 x1 x2 x3 x4 x5 x6 x7 a1 a2 a3
      generalize w3.heap.size = br at *
      generalize w4.heap.size = bm at *
      have D7 : Bk (w6.alloc (.cells #[.int .i64 p1, .int .i64 p2] 43)) w6.heap.size 43 #[.int .i64 p1, .int .i64 p2] := bk_last rfl
      have hB7 := hB6.alloc hB6.size (.cells #[.int .i64 p1, .int .i64 p2] 43)
      have T7 := T6.alloc (.cells #[.int .i64 p1, .int .i64 p2] 43)
      have Q7 := Q6.alloc (.cells #[.int .i64 p1, .int .i64 p2] 43)
      have R7 := R6.alloc (.cells #[.int .i64 p1, .int .i64 p2] 43)
      have M7 := M6.alloc (.cells #[.int .i64 p1, .int .i64 p2] 43)
      clear T6 Q6 R6 M6 hB6
      go_upto_region 8 with fail
      generalize w6.alloc (.cells _ 43) = w7 at *
      generalize w6.heap.size = bd at *
      by_cases hh : p3 = 0
      · subst hh
        have hwp := HF4.out rfl
        obtain ⟨hz3, hzf⟩ := HZ.out rfl
        subst hz3
        obtain ⟨ht0, ht1⟩ := HF10.out rfl
        have hbal := HF3.out rfl
        obtain ⟨⟨hp1, hp2⟩, hp3, hp4⟩ := hwp
        simp only at hp1 hp2 hp3 hp4
        have hmb := mul_bound (y := s.tol) (x := max p1 (-p1) + max p2 (-p2)) (a := 1000000000000) (b := 200) ht0 ht1 (by omega) (by omega)
        clear HF3 HF4 HZ HF10
        by_cases hg : i3 = 0
        · subst hg
          obtain rfl : b1 = false := hbal rfl
          clear hbal
          obtain ⟨x0, x1, x2, x3, x4, x5, x6, x7⟩ := stn_cell0 T7
          have a1 := Q7.cell 1
          have a2 := Q7.cell 2
          have a3 := Q7.cell 3
          simp at a1 a2 a3
          have d0 := D7.cell 0
          have d1 := D7.cell 1
          simp at d0 d1
          go_wp2_with fail
          refine (H29b.out _ hB7).mono ?_
          rintro e w8 ⟨rfl, hb8⟩
          have T8 : Bk w8 w.heap.size 28 (s.cells z) := T7.keep hb8
          have Q8 := Q7.keep hb8
          have R8 := R7.keep hb8
          have M8 := M7.keep hb8
          have D8 := D7.keep hb8
          have hB8 := hB7.trans (hb8.mono hB7.size)
          clear T7 Q7 R7 M7 D7 hB7 hb8 H29b x0 x1 x2 x3 x4 x5 x6 x7 a1 a2 a3 d0 d1
          have hB9 := hB8.alloc hB8.size (.cells #[.int .i64 z1, .int .i64 z2] 53)
          have Z9 : Bk (w8.alloc (.cells #[.int .i64 z1, .int .i64 z2] 53)) w8.heap.size 53 #[.int .i64 z1, .int .i64 z2] := bk_last rfl
          have T9 := T8.alloc (.cells #[.int .i64 z1, .int .i64 z2] 53)
          have Q9 := Q8.alloc (.cells #[.int .i64 z1, .int .i64 z2] 53)
          have R9 := R8.alloc (.cells #[.int .i64 z1, .int .i64 z2] 53)
          have M9 := M8.alloc (.cells #[.int .i64 z1, .int .i64 z2] 53)
          have D9 := D8.alloc (.cells #[.int .i64 z1, .int .i64 z2] 53)
          clear T8 Q8 R8 M8 D8 hB8
          go_upto_region 12 with fail
          generalize w8.alloc (.cells _ 53) = w9 at *
          generalize w8.heap.size = bz at *
          obtain ⟨x0, x1, x2, x3, x4, x5, x6, x7⟩ := stn_cell0 T9
          have a1 := Q9.cell 1
          have a2 := Q9.cell 2
          have a3 := Q9.cell 3
          simp at a1 a2 a3
          have d0 := D9.cell 0
          have d1 := D9.cell 1
          simp at d0 d1
          have z4 := Z9.cell 0
          simp at z4
          by_cases he : r3 = 0
          · subst he
            obtain ⟨hok, hwok⟩ := HF1.out rfl
            clear HF1
            go_upto_region 16 with fail
            clear x0 x1 x2 x3 x4 x5 x6 x7 a1 a2 a3 d0 d1 z4 hzf hmb hp1 hp2 hp3 hp4 ht0 ht1 D9 Z9
            have hw9 := hB9.size
            go_upto_region 16 with fail
            have h8 := HS8.out hok
            obtain ⟨hl3, hla⟩ := HF5.out rfl
            obtain ⟨hg3, hga⟩ := HF6.out rfl
            have hlb := HF7.out rfl
            have hgb := HF8.out rfl
            subst hl3 hg3
            have HAL : Hid (∀ W, Calls Try.prog 44 #[.agg #[.int .i64 wx, .int .i64 wy], .agg #[.int .i64 l1, .int .i64 l2]] W fun e w' => e = .returned (.int .i64 r1) ∧ Below W.heap.size W w') := fun W => by
              rw [← hla]
              exact along_small (wx, wy) (l1, l2) W hwok hlb
            have HAG : Hid (∀ W, Calls Try.prog 44 #[.agg #[.int .i64 wx, .int .i64 wy], .agg #[.int .i64 g1, .int .i64 g2]] W fun e w' => e = .returned (.int .i64 r2) ∧ Below W.heap.size W w') := fun W => by
              rw [← hga]
              exact along_small (wx, wy) (g1, g2) W hwok hgb
            have HPW : Hid (∀ k, k < s.pockets.length → ∀ W, Calls Try.prog 44 #[.agg #[.int .i64 wx, .int .i64 wy], .agg #[.int .i64 (s.pockets.getD k ((0, 0), 0)).1.1, .int .i64 (s.pockets.getD k ((0, 0), 0)).1.2]] W fun e w' => e = .returned (.int .i64 (alongV (wx, wy) (s.pockets.getD k ((0, 0), 0)).1)) ∧ Below W.heap.size W w') := fun k hk W => along_small (wx, wy) (s.pockets.getD k ((0, 0), 0)).1 W hwok (HPK.out hok k hk)
            have bb2 : i0.bytes * s.pockets.length ≤ 281474976710656 := by rw [hz2]; omega
            have bb3 : s.pockets.length ≤ maxLen := by unfold maxLen; omega
            clear hla hga hlb hgb HF5 HF6 HF7 HF8 HPK
            obtain ⟨⟨hi1, hi2⟩, hi3⟩ := HF2.out (by trivial) (by trivial)
            have HA2 : Hid (∀ x : Ext w9, Calls Try.prog 44 #[.agg #[.int .i64 wx, .int .i64 wy], .agg #[.int .i64 i1, .int .i64 i2]] x.w fun e w' => e = .returned (.int .i64 (alongV (wx, wy) (i1, i2))) ∧ Below x.w.heap.size x.w w') := fun x => HA.out x.w hwok hi3
            clear hi3 HA HF2
            generalize alongV (wx, wy) (i1, i2) = al at *
            have hi4 : decide (al < r1) = false := by simp; omega
            have hi5 : decide (r2 < al) = false := by simp; omega
            clear hi1 hi2
            have a2 := Q9.cell 2
            have a3 := Q9.cell 3
            have m1 := M9.cell 0
            have m2 := M9.cell 1
            have r4 := R9.cell 0
            have r5 := R9.cell 1
            simp at a2 a3 m1 m2 r4 r5
            have Y0 := fun x : Ext w9 => keepc x.bel a2
            have Y1 := fun x : Ext w9 => keepc x.bel a3
            have Y2 := fun x : Ext w9 => keepc x.bel m1
            have Y3 := fun x : Ext w9 => keepc x.bel m2
            have Y4 := fun x : Ext w9 => keepc x.bel r4
            have Y5 := fun x : Ext w9 => keepc x.bel r5
            clear a2 a3 m1 m2 r4 r5 hwok
            refine wp_region_ext (by kernel_rfl) (by kernel_rfl) ?_
            repeat (go_big_quiet_step ((go_at_call 44; exact ext_of (HA2.out _))))
            refine wpQuiet_nil ?_
            rintro _ ⟨y, rfl⟩
            clear Y0 Y1 Y2 Y3 Y4 Y5 HA2 hi4 hi5
            have hb20 := y.bel
            generalize y.w = w20 at hb20 ⊢
            have hB20 := hB9.trans (hb20.mono hB9.size)
            have T20 : Bk w20 w.heap.size 28 (s.cells z) := T9.keep hb20
            have Q20 := Q9.keep hb20
            have R20 := R9.keep hb20
            clear T9 Q9 R9 M9 hB9 hb20
            have Tl := T20.lt
            have Ql := Q20.lt
            have Rl := R20.lt
            obtain ⟨x0, x1, x2, x3, x4, x5, x6, x7⟩ := stn_cell0 T20
            go_upto_region 19 with (at_make; refine (wpList_make_full _ rfl _ _ 22 rfl w20.heap.size 3 i0 _ 1 Try.underlying22 hi0 hz0 hz1 .i64 .i64 _ _ s.pockets.length rfl rfl rfl rfl bb2 bb3 (Nat.le_refl _) ?_); intro w21 hown hgr)
            have hmade : (madeCells (Value.int IntKind.i64 0).cells (s.pockets.length * 1)).toList = intCells (List.replicate s.pockets.length 0) := by
              rw [Nat.mul_one]
              show (madeCells #[Value.int IntKind.i64 0] s.pockets.length).toList = _
              rw [toList_madeCells_one]
              simp [intCells]
            rw [hmade] at hown
            have hC21 : Below w20.heap.size w20 w21 := (Below.refl _ _).grown hgr (Nat.le_refl _) (fun r e => by cases e)
            clear x0 x1 x2 x3 x4 x5 x6 x7
            have T21 := T20.keep hC21
            obtain ⟨x0, x1, x2, x3, x4, x5, x6, x7⟩ := stn_cell0 T21
            go_wp2_with (at_make; refine (wpList_make_full _ rfl _ _ 22 rfl w21.heap.size 3 i0 _ 1 Try.underlying22 hi0 hz0 hz1 .i64 .i64 _ _ s.pockets.length rfl rfl rfl rfl bb2 bb3 (Nat.le_refl _) ?_); intro w22 hown2 hgr2)
            rw [hmade] at hown2
            have hC22 : Below w21.heap.size w21 w22 := (Below.refl _ _).grown hgr2 (Nat.le_refl _) (fun r e => by cases e)
            have hown3 := own_keep hown hC22
            have hgl : w20.heap.size < w21.heap.size := (hown.lt _ rfl).2
            have hC := hC21.trans (hC22.mono hC21.size)
            clear hown hmade hgr hgr2 bb2 bb3 hC21 hC22 x0 x1 x2 x3 x4 x5 x6 x7 T21
            rw [← endL_zero s lowC (wx, wy)] at hown3
            rw [← endL_zero s highC (wx, wy)] at hown2
            have hown2 := own_base hown2 (show w20.heap.size ≤ w21.heap.size by omega)
            generalize w21.heap.size = G2 at *
            obtain ⟨G1, hG1⟩ : ∃ g, w20.heap.size = g := ⟨_, rfl⟩
            have hG1l : G1 ≤ w20.heap.size := by omega
            have hGw : w.heap.size ≤ G1 := by have := hB20.size; omega
            rw [hG1] at hown2 hown3 hgl ⊢
            rw [hG1] at Tl Ql Rl hC
            clear hG1
            go_loopw [18] (fun i wr => ∃ k : Nat, k ≤ s.pockets.length ∧ i = .int .i64 k ∧ wr.ownsRow G1 3 1 (.slice (some ⟨G1, 0, none⟩) s.pockets.length s.pockets.length) s.pockets.length (intCells (endL s lowC (wx, wy) k)) ∧ wr.ownsRow G1 3 1 (.slice (some ⟨G2, 0, none⟩) s.pockets.length s.pockets.length) s.pockets.length (intCells (endL s highC (wx, wy) k)) ∧ Below G1 w20 wr) (fun i _ => s.pockets.length - (intOf i).toNat)
            case atStart => exact ⟨0, Nat.zero_le _, rfl, hown3, hown2, hC⟩
            case round =>
              clear hown3 hown2 hC
              obtain ⟨k, hk, rfl, hown1, hown2, hBr⟩ := hrel
              have Tr := T20.below hBr Tl
              have Qr := Q20.below hBr Ql
              obtain ⟨x0, x1, x2, x3, x4, x5, x6, x7⟩ := stn_cell0 Tr
              have a2 := Qr.cell 2
              have a3 := Qr.cell 3
              simp at a2 a3
              have hBw : Below w.heap.size w wr := hB20.trans (hBr.mono hGw)
              have hlt1 : G1 < wr.heap.size := (hown1.lt _ rfl).2
              by_cases hlt : k < s.pockets.length
              · have hI : (k : Int) < s.pockets.length := by omega
                obtain ⟨b, off, hA, hb, hc⟩ := hs.pockets.pk (by omega)
                obtain ⟨c0, c1, c2⟩ := hc k hlt
                have c0' := keepc hBw c0
                have c1' := keepc hBw c1
                have c2' := keepc hBw c2
                rw [hA] at x6
                have HPK2 : Hid (∀ x : Ext wr, Calls Try.prog 44 #[.agg #[.int .i64 wx, .int .i64 wy], .agg #[.int .i64 (s.pockets.getD k ((0, 0), 0)).1.1, .int .i64 (s.pockets.getD k ((0, 0), 0)).1.2]] x.w fun e w' => e = .returned (.int .i64 (alongV (wx, wy) (s.pockets.getD k ((0, 0), 0)).1)) ∧ Below x.w.heap.size x.w w') := fun x => HPW.out k hlt x.w
                have HLY : Hid (lowC (alongV (wx, wy) (s.pockets.getD k ((0, 0), 0)).1) = true → (endL s lowC (wx, wy) k).set k (s.pockets.getD k ((0, 0), 0)).2 = endL s lowC (wx, wy) (k + 1)) := fun h => endL_yes s lowC (wx, wy) h
                have HLN : Hid (lowC (alongV (wx, wy) (s.pockets.getD k ((0, 0), 0)).1) = false → endL s lowC (wx, wy) (k + 1) = endL s lowC (wx, wy) k) := fun h => endL_no s lowC (wx, wy) h
                have HHY : Hid (highC (alongV (wx, wy) (s.pockets.getD k ((0, 0), 0)).1) = true → (endL s highC (wx, wy) k).set k (s.pockets.getD k ((0, 0), 0)).2 = endL s highC (wx, wy) (k + 1)) := fun h => endL_yes s highC (wx, wy) h
                have HHN : Hid (highC (alongV (wx, wy) (s.pockets.getD k ((0, 0), 0)).1) = false → endL s highC (wx, wy) (k + 1) = endL s highC (wx, wy) k) := fun h => endL_no s highC (wx, wy) h
                have hel := endL_len s lowC (wx, wy) k
                have heg := endL_len s highC (wx, wy) k
                clear hc c0 c1 c2 hA
                generalize s.pockets.getD k ((0, 0), 0) = d at *
                obtain ⟨⟨dx, dy⟩, dm⟩ := d
                simp only at c0' c1' c2' HPK2 HLY HLN HHY HHN
                generalize endL s lowC (wx, wy) k = E1 at *
                generalize endL s highC (wx, wy) k = E2 at *
                obtain ⟨E3, hE3⟩ : ∃ E, endL s lowC (wx, wy) (k + 1) = E := ⟨_, rfl⟩
                obtain ⟨E4, hE4⟩ : ∃ E, endL s highC (wx, wy) (k + 1) = E := ⟨_, rfl⟩
                rw [hE3] at HLY HLN
                rw [hE4] at HHY HHN
                have HE3 := Lib.hid hE3
                have HE4 := Lib.hid hE4
                clear hE3 hE4
                generalize alongV (wx, wy) (dx, dy) = av at *
                go_upto_region 23 with fail
                refine wp_region_ext (by kernel_rfl) (by kernel_rfl) ?_
                have Y0 := fun x : Ext wr => keepc x.bel a2
                have Y1 := fun x : Ext wr => keepc x.bel a3
                have Y2 := fun x : Ext wr => keepc x.bel x6
                have Y3 := fun x : Ext wr => keepc x.bel c0'
                have Y4 := fun x : Ext wr => keepc x.bel c1'
                clear x0 x1 x2 x3 x4 x5 x7 a2 a3 c0' c1'
                repeat (go_big_quiet_step ((go_at_call 44; exact ext_of (HPK2.out _))))
                refine wpQuiet_nil ?_
                rintro _ ⟨y, rfl⟩
                clear Y0 Y1 Y2 Y3 Y4 HPK2
                have hb30 := y.bel
                generalize y.w = w30 at hb30 ⊢
                have hC30 := hBr.trans (hb30.mono (by omega))
                replace x6 := keepc hb30 x6
                replace c2' := keepc hb30 c2'
                replace hown1 := own_keep hown1 hb30
                replace hown2 := own_keep hown2 hb30
                have hG2l : G1 ≤ G2 := by omega
                clear hBr hb30 hBw Tr Qr hlt1
                have fz1 := hown1.frozenAt k
                have fz2 := hown2.frozenAt k
                obtain ⟨v1, hv1⟩ : ∃ v0, (intCells E1)[k]? = some v0 := ⟨_, List.getElem?_eq_getElem (by rw [intCells_len, hel]; exact hlt)⟩
                obtain ⟨v2, hv2⟩ : ∃ v0, (intCells E2)[k]? = some v0 := ⟨_, List.getElem?_eq_getElem (by rw [intCells_len, heg]; exact hlt)⟩
                have cc1 := (hown1.cellAt k (by omega)).trans hv1
                have cc2 := (hown2.cellAt k (by omega)).trans hv2
                have ho1 := (hown1.stored k (.int .i64 dm)).1
                have ho2 := (hown2.stored k (.int .i64 dm)).1
                have ho3 := ownsRow_setCell_other hown1 (a := ⟨G2, k, none⟩) (by simp [Value.ownBlock]; omega) (.int .i64 dm)
                have ho4 := ownsRow_setCell_other hown2 (a := ⟨G1, k, none⟩) (by simp [Value.ownBlock]; omega) (.int .i64 dm)
                rw [show (intCells E1).set k (.int .i64 dm) = intCells (E1.set k dm) by simp [intCells, List.map_set]] at ho1
                rw [show (intCells E2).set k (.int .i64 dm) = intCells (E2.set k dm) by simp [intCells, List.map_set]] at ho2
                rcases Int.lt_trichotomy av 0 with hav | hav | hav
                · have e1 := HLY.out (by simp [lowC, hav])
                  have e2 := HHN.out (by simp [highC]; omega)
                  rw [e1] at ho1
                  rw [← e2] at ho4
                  have HO := Lib.hid (And.intro ho1 (And.intro ho4 hC30))
                  clear ho1 ho2 ho3 ho4 e1 e2 hC30 hown1 hown2 hv1 hv2 HLY HLN HHY HHN
                  go_wp2_with fail
                  go_roundw
                  case rel => exact ⟨k + 1, by omega, by go_num, by rw [HE3.out]; exact HO.out.1, by rw [HE4.out]; exact HO.out.2.1, HO.out.2.2.setCell (by simp <;> omega) _⟩
                  case measure => simp [intOf]; omega
                · have e1 := HLN.out (by simp [lowC, hav])
                  have e2 := HHN.out (by simp [highC, hav])
                  rw [← e1] at hown1
                  rw [← e2] at hown2
                  have HO := Lib.hid (And.intro hown1 (And.intro hown2 hC30))
                  subst hav
                  clear ho1 ho2 ho3 ho4 e1 e2 hC30 hown1 hown2 hv1 hv2 HLY HLN HHY HHN
                  go_wp2_with fail
                  go_roundw
                  case rel => exact ⟨k + 1, by omega, by go_num, by rw [HE3.out]; exact HO.out.1, by rw [HE4.out]; exact HO.out.2.1, HO.out.2.2⟩
                  case measure => simp [intOf]; omega
                · have e1 := HLN.out (by simp [lowC]; omega)
                  have e2 := HHY.out (by simp [highC, hav])
                  rw [e2] at ho2
                  rw [← e1] at ho3
                  have HO := Lib.hid (And.intro ho3 (And.intro ho2 hC30))
                  clear ho1 ho2 ho3 ho4 e1 e2 hC30 hown1 hown2 hv1 hv2 HLY HLN HHY HHN
                  go_wp2_with fail
                  go_roundw
                  case rel => exact ⟨k + 1, by omega, by go_num, by rw [HE3.out]; exact HO.out.1, by rw [HE4.out]; exact HO.out.2.1, HO.out.2.2.setCell (by simp <;> omega) _⟩
                  case measure => simp [intOf]; omega
              · obtain rfl : k = s.pockets.length := by omega
                have Rr := R20.below hBr Rl
                have HR2 := Lib.hid (row_of_own hown2)
                have HR1 := Lib.hid (row_of_own hown1)
                clear hown1 hown2 hBr hlt1
                have hTl := Tr.lt
                go_wp2_with fail
                refine (HL.out _ _ _ hBw h8 HR1.out).mono ?_
                rintro e w31 ⟨rfl, hb31⟩
                have T31 : Bk w31 w.heap.size 28 (s.cells z) := Bk.keep Tr hb31
                have Q31 := Qr.keep hb31
                have R31 := Rr.keep hb31
                have hB31 := hBw.trans (hb31.mono hBw.size)
                have HR3 := Lib.hid (HR2.out.below hb31)
                clear HR1 HR2 Tr Qr Rr hBw hb31 x0 x1 x2 x3 x4 x5 x6 x7 a2 a3 hTl
                obtain ⟨x0, x1, x2, x3, x4, x5, x6, x7⟩ := stn_cell0 T31
                have hTl := T31.lt
                have L31 : Bk (w31.alloc (.cells #[.int .i64 l1, .int .i64 l2] 43)) w31.heap.size 43 #[.int .i64 l1, .int .i64 l2] := bk_last rfl
                have hC31 := hB31.alloc hB31.size (.cells #[.int .i64 l1, .int .i64 l2] 43)
                go_wp2_with fail
                refine (HH.out _ _ _ hC31 h8 (HR3.out.alloc _)).mono ?_
                rintro e w32 ⟨rfl, hb32⟩
                have Q32 := (Q31.alloc _).keep hb32
                have R32 := (R31.alloc _).keep hb32
                have L32 := L31.keep hb32
                have hB32 := hC31.trans (hb32.mono hC31.size)
                clear HR3 T31 Q31 R31 L31 hB31 hC31 hb32 x0 x1 x2 x3 x4 x5 x6 x7 hTl
                generalize w31.heap.size = bl at *
                have N33 : Bk (w32.alloc (.cells #[.int .i64 g1, .int .i64 g2] 43)) w32.heap.size 43 #[.int .i64 g1, .int .i64 g2] := bk_last rfl
                have hB33 := hB32.alloc hB32.size (.cells #[.int .i64 g1, .int .i64 g2] 43)
                have Q33 := Q32.alloc (.cells #[.int .i64 g1, .int .i64 g2] 43)
                have R33 := R32.alloc (.cells #[.int .i64 g1, .int .i64 g2] 43)
                have L33 := L32.alloc (.cells #[.int .i64 g1, .int .i64 g2] 43)
                clear Q32 R32 L32 hB32
                go_upto_region 30 with fail
                generalize w32.alloc (.cells _ 43) = w33 at *
                generalize w32.heap.size = bn at *
                have a2 := Q33.cell 2
                have a3 := Q33.cell 3
                have q0 := R33.cell 0
                have q1 := R33.cell 1
                have q2 := L33.cell 0
                have q3 := L33.cell 1
                have q4 := N33.cell 0
                have q5 := N33.cell 1
                simp at a2 a3 q0 q1 q2 q3 q4 q5
                have Y0 := fun x : Ext w33 => keepc x.bel a2
                have Y1 := fun x : Ext w33 => keepc x.bel a3
                have Y2 := fun x : Ext w33 => keepc x.bel q0
                have Y3 := fun x : Ext w33 => keepc x.bel q1
                have Y4 := fun x : Ext w33 => keepc x.bel q2
                have Y5 := fun x : Ext w33 => keepc x.bel q3
                have Y6 := fun x : Ext w33 => keepc x.bel q4
                have Y7 := fun x : Ext w33 => keepc x.bel q5
                have e1 : (r1 == r1) = true := by simp
                have e2 : (r2 == r2) = true := by simp
                clear a2 a3 q0 q1 q2 q3 q4 q5
                refine wp_region_ext (by kernel_rfl) (by kernel_rfl) ?_
                repeat (go_big_quiet_step (fail))
                go_big_quiet_step ((go_at_call 44; exact ext_of (HAL.out _)))
                repeat (go_big_quiet_step (fail))
                go_big_quiet_step ((go_at_call 44; exact ext_of (HAG.out _)))
                repeat (go_big_quiet_step (fail))
                refine wpQuiet_nil ?_
                rintro _ ⟨y, rfl⟩
                clear Y0 Y1 Y2 Y3 Y4 Y5 Y6 Y7
                have hb34 := y.bel
                generalize y.w = w34 at hb34 ⊢
                have hB34 := hB33.trans (hb34.mono hB33.size)
                go_wp2_with fail
                go_ret
                exact ⟨rfl, hB34⟩
          · have he2 : (r3 != 0) = true := by simp [he]
            clear he
            go_wp2_with fail
            go_ret
            exact ⟨rfl, hB9⟩
        · have hg2 : (i3 == 0) = false := by simp [hg]
          clear hg hbal
          obtain ⟨x0, x1, x2, x3, x4, x5, x6, x7⟩ := stn_cell0 T7
          have a1 := Q7.cell 1
          have a2 := Q7.cell 2
          have a3 := Q7.cell 3
          simp at a1 a2 a3
          have d0 := D7.cell 0
          have d1 := D7.cell 1
          simp at d0 d1
          go_wp2_with fail
          refine (H29b.out _ hB7).mono ?_
          rintro e w8 ⟨rfl, hb8⟩
          have T8 : Bk w8 w.heap.size 28 (s.cells z) := T7.keep hb8
          have Q8 := Q7.keep hb8
          have R8 := R7.keep hb8
          have M8 := M7.keep hb8
          have D8 := D7.keep hb8
          have hB8 := hB7.trans (hb8.mono hB7.size)
          clear T7 Q7 R7 M7 D7 hB7 hb8 H29b x0 x1 x2 x3 x4 x5 x6 x7 a1 a2 a3 d0 d1
          have hB9 := hB8.alloc hB8.size (.cells #[.int .i64 z1, .int .i64 z2] 53)
          have Z9 : Bk (w8.alloc (.cells #[.int .i64 z1, .int .i64 z2] 53)) w8.heap.size 53 #[.int .i64 z1, .int .i64 z2] := bk_last rfl
          have T9 := T8.alloc (.cells #[.int .i64 z1, .int .i64 z2] 53)
          have Q9 := Q8.alloc (.cells #[.int .i64 z1, .int .i64 z2] 53)
          have R9 := R8.alloc (.cells #[.int .i64 z1, .int .i64 z2] 53)
          have M9 := M8.alloc (.cells #[.int .i64 z1, .int .i64 z2] 53)
          have D9 := D8.alloc (.cells #[.int .i64 z1, .int .i64 z2] 53)
          clear T8 Q8 R8 M8 D8 hB8
          go_upto_region 12 with fail
          generalize w8.alloc (.cells _ 53) = w9 at *
          generalize w8.heap.size = bz at *
          obtain ⟨x0, x1, x2, x3, x4, x5, x6, x7⟩ := stn_cell0 T9
          have a1 := Q9.cell 1
          have a2 := Q9.cell 2
          have a3 := Q9.cell 3
          simp at a1 a2 a3
          have d0 := D9.cell 0
          have d1 := D9.cell 1
          simp at d0 d1
          have z4 := Z9.cell 0
          simp at z4
          by_cases he : r3 = 0
          · subst he
            obtain ⟨hok, hwok⟩ := HF1.out rfl
            clear HF1
            go_upto_region 16 with fail
            clear x0 x1 x2 x3 x4 x5 x6 x7 a1 a2 a3 d0 d1 z4 hzf hmb hp1 hp2 hp3 hp4 ht0 ht1 D9 Z9
            have hw9 := hB9.size
            go_upto_region 16 with fail
            have h8 := HS8.out hok
            obtain ⟨hl3, hla⟩ := HF5.out rfl
            obtain ⟨hg3, hga⟩ := HF6.out rfl
            have hlb := HF7.out rfl
            have hgb := HF8.out rfl
            subst hl3 hg3
            have HAL : Hid (∀ W, Calls Try.prog 44 #[.agg #[.int .i64 wx, .int .i64 wy], .agg #[.int .i64 l1, .int .i64 l2]] W fun e w' => e = .returned (.int .i64 r1) ∧ Below W.heap.size W w') := fun W => by
              rw [← hla]
              exact along_small (wx, wy) (l1, l2) W hwok hlb
            have HAG : Hid (∀ W, Calls Try.prog 44 #[.agg #[.int .i64 wx, .int .i64 wy], .agg #[.int .i64 g1, .int .i64 g2]] W fun e w' => e = .returned (.int .i64 r2) ∧ Below W.heap.size W w') := fun W => by
              rw [← hga]
              exact along_small (wx, wy) (g1, g2) W hwok hgb
            have HPW : Hid (∀ k, k < s.pockets.length → ∀ W, Calls Try.prog 44 #[.agg #[.int .i64 wx, .int .i64 wy], .agg #[.int .i64 (s.pockets.getD k ((0, 0), 0)).1.1, .int .i64 (s.pockets.getD k ((0, 0), 0)).1.2]] W fun e w' => e = .returned (.int .i64 (alongV (wx, wy) (s.pockets.getD k ((0, 0), 0)).1)) ∧ Below W.heap.size W w') := fun k hk W => along_small (wx, wy) (s.pockets.getD k ((0, 0), 0)).1 W hwok (HPK.out hok k hk)
            have bb2 : i0.bytes * s.pockets.length ≤ 281474976710656 := by rw [hz2]; omega
            have bb3 : s.pockets.length ≤ maxLen := by unfold maxLen; omega
            clear hla hga hlb hgb HF5 HF6 HF7 HF8 HPK
            clear HA HF2
            have a2 := Q9.cell 2
            have a3 := Q9.cell 3
            have m1 := M9.cell 0
            have m2 := M9.cell 1
            have r4 := R9.cell 0
            have r5 := R9.cell 1
            simp at a2 a3 m1 m2 r4 r5
            have Y0 := fun x : Ext w9 => keepc x.bel a2
            have Y1 := fun x : Ext w9 => keepc x.bel a3
            have Y2 := fun x : Ext w9 => keepc x.bel m1
            have Y3 := fun x : Ext w9 => keepc x.bel m2
            have Y4 := fun x : Ext w9 => keepc x.bel r4
            have Y5 := fun x : Ext w9 => keepc x.bel r5
            clear a2 a3 m1 m2 r4 r5 hwok
            refine wp_region_ext (by kernel_rfl) (by kernel_rfl) ?_
            repeat (go_big_quiet_step (fail))
            refine wpQuiet_nil ?_
            rintro _ ⟨y, rfl⟩
            clear Y0 Y1 Y2 Y3 Y4 Y5
            have hb20 := y.bel
            generalize y.w = w20 at hb20 ⊢
            have hB20 := hB9.trans (hb20.mono hB9.size)
            have T20 : Bk w20 w.heap.size 28 (s.cells z) := T9.keep hb20
            have Q20 := Q9.keep hb20
            have R20 := R9.keep hb20
            clear T9 Q9 R9 M9 hB9 hb20
            have Tl := T20.lt
            have Ql := Q20.lt
            have Rl := R20.lt
            obtain ⟨x0, x1, x2, x3, x4, x5, x6, x7⟩ := stn_cell0 T20
            go_upto_region 19 with (at_make; refine (wpList_make_full _ rfl _ _ 22 rfl w20.heap.size 3 i0 _ 1 Try.underlying22 hi0 hz0 hz1 .i64 .i64 _ _ s.pockets.length rfl rfl rfl rfl bb2 bb3 (Nat.le_refl _) ?_); intro w21 hown hgr)
            have hmade : (madeCells (Value.int IntKind.i64 0).cells (s.pockets.length * 1)).toList = intCells (List.replicate s.pockets.length 0) := by
              rw [Nat.mul_one]
              show (madeCells #[Value.int IntKind.i64 0] s.pockets.length).toList = _
              rw [toList_madeCells_one]
              simp [intCells]
            rw [hmade] at hown
            have hC21 : Below w20.heap.size w20 w21 := (Below.refl _ _).grown hgr (Nat.le_refl _) (fun r e => by cases e)
            clear x0 x1 x2 x3 x4 x5 x6 x7
            have T21 := T20.keep hC21
            obtain ⟨x0, x1, x2, x3, x4, x5, x6, x7⟩ := stn_cell0 T21
            go_wp2_with (at_make; refine (wpList_make_full _ rfl _ _ 22 rfl w21.heap.size 3 i0 _ 1 Try.underlying22 hi0 hz0 hz1 .i64 .i64 _ _ s.pockets.length rfl rfl rfl rfl bb2 bb3 (Nat.le_refl _) ?_); intro w22 hown2 hgr2)
            rw [hmade] at hown2
            have hC22 : Below w21.heap.size w21 w22 := (Below.refl _ _).grown hgr2 (Nat.le_refl _) (fun r e => by cases e)
            have hown3 := own_keep hown hC22
            have hgl : w20.heap.size < w21.heap.size := (hown.lt _ rfl).2
            have hC := hC21.trans (hC22.mono hC21.size)
            clear hown hmade hgr hgr2 bb2 bb3 hC21 hC22 x0 x1 x2 x3 x4 x5 x6 x7 T21
            rw [← endL_zero s lowC (wx, wy)] at hown3
            rw [← endL_zero s highC (wx, wy)] at hown2
            have hown2 := own_base hown2 (show w20.heap.size ≤ w21.heap.size by omega)
            generalize w21.heap.size = G2 at *
            obtain ⟨G1, hG1⟩ : ∃ g, w20.heap.size = g := ⟨_, rfl⟩
            have hG1l : G1 ≤ w20.heap.size := by omega
            have hGw : w.heap.size ≤ G1 := by have := hB20.size; omega
            rw [hG1] at hown2 hown3 hgl ⊢
            rw [hG1] at Tl Ql Rl hC
            clear hG1
            go_loopw [18] (fun i wr => ∃ k : Nat, k ≤ s.pockets.length ∧ i = .int .i64 k ∧ wr.ownsRow G1 3 1 (.slice (some ⟨G1, 0, none⟩) s.pockets.length s.pockets.length) s.pockets.length (intCells (endL s lowC (wx, wy) k)) ∧ wr.ownsRow G1 3 1 (.slice (some ⟨G2, 0, none⟩) s.pockets.length s.pockets.length) s.pockets.length (intCells (endL s highC (wx, wy) k)) ∧ Below G1 w20 wr) (fun i _ => s.pockets.length - (intOf i).toNat)
            case atStart => exact ⟨0, Nat.zero_le _, rfl, hown3, hown2, hC⟩
            case round =>
              clear hown3 hown2 hC
              obtain ⟨k, hk, rfl, hown1, hown2, hBr⟩ := hrel
              have Tr := T20.below hBr Tl
              have Qr := Q20.below hBr Ql
              obtain ⟨x0, x1, x2, x3, x4, x5, x6, x7⟩ := stn_cell0 Tr
              have a2 := Qr.cell 2
              have a3 := Qr.cell 3
              simp at a2 a3
              have hBw : Below w.heap.size w wr := hB20.trans (hBr.mono hGw)
              have hlt1 : G1 < wr.heap.size := (hown1.lt _ rfl).2
              by_cases hlt : k < s.pockets.length
              · have hI : (k : Int) < s.pockets.length := by omega
                obtain ⟨b, off, hA, hb, hc⟩ := hs.pockets.pk (by omega)
                obtain ⟨c0, c1, c2⟩ := hc k hlt
                have c0' := keepc hBw c0
                have c1' := keepc hBw c1
                have c2' := keepc hBw c2
                rw [hA] at x6
                have HPK2 : Hid (∀ x : Ext wr, Calls Try.prog 44 #[.agg #[.int .i64 wx, .int .i64 wy], .agg #[.int .i64 (s.pockets.getD k ((0, 0), 0)).1.1, .int .i64 (s.pockets.getD k ((0, 0), 0)).1.2]] x.w fun e w' => e = .returned (.int .i64 (alongV (wx, wy) (s.pockets.getD k ((0, 0), 0)).1)) ∧ Below x.w.heap.size x.w w') := fun x => HPW.out k hlt x.w
                have HLY : Hid (lowC (alongV (wx, wy) (s.pockets.getD k ((0, 0), 0)).1) = true → (endL s lowC (wx, wy) k).set k (s.pockets.getD k ((0, 0), 0)).2 = endL s lowC (wx, wy) (k + 1)) := fun h => endL_yes s lowC (wx, wy) h
                have HLN : Hid (lowC (alongV (wx, wy) (s.pockets.getD k ((0, 0), 0)).1) = false → endL s lowC (wx, wy) (k + 1) = endL s lowC (wx, wy) k) := fun h => endL_no s lowC (wx, wy) h
                have HHY : Hid (highC (alongV (wx, wy) (s.pockets.getD k ((0, 0), 0)).1) = true → (endL s highC (wx, wy) k).set k (s.pockets.getD k ((0, 0), 0)).2 = endL s highC (wx, wy) (k + 1)) := fun h => endL_yes s highC (wx, wy) h
                have HHN : Hid (highC (alongV (wx, wy) (s.pockets.getD k ((0, 0), 0)).1) = false → endL s highC (wx, wy) (k + 1) = endL s highC (wx, wy) k) := fun h => endL_no s highC (wx, wy) h
                have hel := endL_len s lowC (wx, wy) k
                have heg := endL_len s highC (wx, wy) k
                clear hc c0 c1 c2 hA
                generalize s.pockets.getD k ((0, 0), 0) = d at *
                obtain ⟨⟨dx, dy⟩, dm⟩ := d
                simp only at c0' c1' c2' HPK2 HLY HLN HHY HHN
                generalize endL s lowC (wx, wy) k = E1 at *
                generalize endL s highC (wx, wy) k = E2 at *
                obtain ⟨E3, hE3⟩ : ∃ E, endL s lowC (wx, wy) (k + 1) = E := ⟨_, rfl⟩
                obtain ⟨E4, hE4⟩ : ∃ E, endL s highC (wx, wy) (k + 1) = E := ⟨_, rfl⟩
                rw [hE3] at HLY HLN
                rw [hE4] at HHY HHN
                have HE3 := Lib.hid hE3
                have HE4 := Lib.hid hE4
                clear hE3 hE4
                generalize alongV (wx, wy) (dx, dy) = av at *
                go_upto_region 23 with fail
                refine wp_region_ext (by kernel_rfl) (by kernel_rfl) ?_
                have Y0 := fun x : Ext wr => keepc x.bel a2
                have Y1 := fun x : Ext wr => keepc x.bel a3
                have Y2 := fun x : Ext wr => keepc x.bel x6
                have Y3 := fun x : Ext wr => keepc x.bel c0'
                have Y4 := fun x : Ext wr => keepc x.bel c1'
                clear x0 x1 x2 x3 x4 x5 x7 a2 a3 c0' c1'
                repeat (go_big_quiet_step ((go_at_call 44; exact ext_of (HPK2.out _))))
                refine wpQuiet_nil ?_
                rintro _ ⟨y, rfl⟩
                clear Y0 Y1 Y2 Y3 Y4 HPK2
                have hb30 := y.bel
                generalize y.w = w30 at hb30 ⊢
                have hC30 := hBr.trans (hb30.mono (by omega))
                replace x6 := keepc hb30 x6
                replace c2' := keepc hb30 c2'
                replace hown1 := own_keep hown1 hb30
                replace hown2 := own_keep hown2 hb30
                have hG2l : G1 ≤ G2 := by omega
                clear hBr hb30 hBw Tr Qr hlt1
                have fz1 := hown1.frozenAt k
                have fz2 := hown2.frozenAt k
                obtain ⟨v1, hv1⟩ : ∃ v0, (intCells E1)[k]? = some v0 := ⟨_, List.getElem?_eq_getElem (by rw [intCells_len, hel]; exact hlt)⟩
                obtain ⟨v2, hv2⟩ : ∃ v0, (intCells E2)[k]? = some v0 := ⟨_, List.getElem?_eq_getElem (by rw [intCells_len, heg]; exact hlt)⟩
                have cc1 := (hown1.cellAt k (by omega)).trans hv1
                have cc2 := (hown2.cellAt k (by omega)).trans hv2
                have ho1 := (hown1.stored k (.int .i64 dm)).1
                have ho2 := (hown2.stored k (.int .i64 dm)).1
                have ho3 := ownsRow_setCell_other hown1 (a := ⟨G2, k, none⟩) (by simp [Value.ownBlock]; omega) (.int .i64 dm)
                have ho4 := ownsRow_setCell_other hown2 (a := ⟨G1, k, none⟩) (by simp [Value.ownBlock]; omega) (.int .i64 dm)
                rw [show (intCells E1).set k (.int .i64 dm) = intCells (E1.set k dm) by simp [intCells, List.map_set]] at ho1
                rw [show (intCells E2).set k (.int .i64 dm) = intCells (E2.set k dm) by simp [intCells, List.map_set]] at ho2
                rcases Int.lt_trichotomy av 0 with hav | hav | hav
                · have e1 := HLY.out (by simp [lowC, hav])
                  have e2 := HHN.out (by simp [highC]; omega)
                  rw [e1] at ho1
                  rw [← e2] at ho4
                  have HO := Lib.hid (And.intro ho1 (And.intro ho4 hC30))
                  clear ho1 ho2 ho3 ho4 e1 e2 hC30 hown1 hown2 hv1 hv2 HLY HLN HHY HHN
                  go_wp2_with fail
                  go_roundw
                  case rel => exact ⟨k + 1, by omega, by go_num, by rw [HE3.out]; exact HO.out.1, by rw [HE4.out]; exact HO.out.2.1, HO.out.2.2.setCell (by simp <;> omega) _⟩
                  case measure => simp [intOf]; omega
                · have e1 := HLN.out (by simp [lowC, hav])
                  have e2 := HHN.out (by simp [highC, hav])
                  rw [← e1] at hown1
                  rw [← e2] at hown2
                  have HO := Lib.hid (And.intro hown1 (And.intro hown2 hC30))
                  subst hav
                  clear ho1 ho2 ho3 ho4 e1 e2 hC30 hown1 hown2 hv1 hv2 HLY HLN HHY HHN
                  go_wp2_with fail
                  go_roundw
                  case rel => exact ⟨k + 1, by omega, by go_num, by rw [HE3.out]; exact HO.out.1, by rw [HE4.out]; exact HO.out.2.1, HO.out.2.2⟩
                  case measure => simp [intOf]; omega
                · have e1 := HLN.out (by simp [lowC]; omega)
                  have e2 := HHY.out (by simp [highC, hav])
                  rw [e2] at ho2
                  rw [← e1] at ho3
                  have HO := Lib.hid (And.intro ho3 (And.intro ho2 hC30))
                  clear ho1 ho2 ho3 ho4 e1 e2 hC30 hown1 hown2 hv1 hv2 HLY HLN HHY HHN
                  go_wp2_with fail
                  go_roundw
                  case rel => exact ⟨k + 1, by omega, by go_num, by rw [HE3.out]; exact HO.out.1, by rw [HE4.out]; exact HO.out.2.1, HO.out.2.2.setCell (by simp <;> omega) _⟩
                  case measure => simp [intOf]; omega
              · obtain rfl : k = s.pockets.length := by omega
                have Rr := R20.below hBr Rl
                have HR2 := Lib.hid (row_of_own hown2)
                have HR1 := Lib.hid (row_of_own hown1)
                clear hown1 hown2 hBr hlt1
                have hTl := Tr.lt
                go_wp2_with fail
                refine (HL.out _ _ _ hBw h8 HR1.out).mono ?_
                rintro e w31 ⟨rfl, hb31⟩
                have T31 : Bk w31 w.heap.size 28 (s.cells z) := Bk.keep Tr hb31
                have Q31 := Qr.keep hb31
                have R31 := Rr.keep hb31
                have hB31 := hBw.trans (hb31.mono hBw.size)
                have HR3 := Lib.hid (HR2.out.below hb31)
                clear HR1 HR2 Tr Qr Rr hBw hb31 x0 x1 x2 x3 x4 x5 x6 x7 a2 a3 hTl
                obtain ⟨x0, x1, x2, x3, x4, x5, x6, x7⟩ := stn_cell0 T31
                have hTl := T31.lt
                have L31 : Bk (w31.alloc (.cells #[.int .i64 l1, .int .i64 l2] 43)) w31.heap.size 43 #[.int .i64 l1, .int .i64 l2] := bk_last rfl
                have hC31 := hB31.alloc hB31.size (.cells #[.int .i64 l1, .int .i64 l2] 43)
                go_wp2_with fail
                refine (HH.out _ _ _ hC31 h8 (HR3.out.alloc _)).mono ?_
                rintro e w32 ⟨rfl, hb32⟩
                have Q32 := (Q31.alloc _).keep hb32
                have R32 := (R31.alloc _).keep hb32
                have L32 := L31.keep hb32
                have hB32 := hC31.trans (hb32.mono hC31.size)
                clear HR3 T31 Q31 R31 L31 hB31 hC31 hb32 x0 x1 x2 x3 x4 x5 x6 x7 hTl
                generalize w31.heap.size = bl at *
                have N33 : Bk (w32.alloc (.cells #[.int .i64 g1, .int .i64 g2] 43)) w32.heap.size 43 #[.int .i64 g1, .int .i64 g2] := bk_last rfl
                have hB33 := hB32.alloc hB32.size (.cells #[.int .i64 g1, .int .i64 g2] 43)
                have Q33 := Q32.alloc (.cells #[.int .i64 g1, .int .i64 g2] 43)
                have R33 := R32.alloc (.cells #[.int .i64 g1, .int .i64 g2] 43)
                have L33 := L32.alloc (.cells #[.int .i64 g1, .int .i64 g2] 43)
                clear Q32 R32 L32 hB32
                go_upto_region 30 with fail
                generalize w32.alloc (.cells _ 43) = w33 at *
                generalize w32.heap.size = bn at *
                have a2 := Q33.cell 2
                have a3 := Q33.cell 3
                have q0 := R33.cell 0
                have q1 := R33.cell 1
                have q2 := L33.cell 0
                have q3 := L33.cell 1
                have q4 := N33.cell 0
                have q5 := N33.cell 1
                simp at a2 a3 q0 q1 q2 q3 q4 q5
                have Y0 := fun x : Ext w33 => keepc x.bel a2
                have Y1 := fun x : Ext w33 => keepc x.bel a3
                have Y2 := fun x : Ext w33 => keepc x.bel q0
                have Y3 := fun x : Ext w33 => keepc x.bel q1
                have Y4 := fun x : Ext w33 => keepc x.bel q2
                have Y5 := fun x : Ext w33 => keepc x.bel q3
                have Y6 := fun x : Ext w33 => keepc x.bel q4
                have Y7 := fun x : Ext w33 => keepc x.bel q5
                have e1 : (r1 == r1) = true := by simp
                have e2 : (r2 == r2) = true := by simp
                clear a2 a3 q0 q1 q2 q3 q4 q5
                refine wp_region_ext (by kernel_rfl) (by kernel_rfl) ?_
                repeat (go_big_quiet_step (fail))
                go_big_quiet_step ((go_at_call 44; exact ext_of (HAL.out _)))
                repeat (go_big_quiet_step (fail))
                go_big_quiet_step ((go_at_call 44; exact ext_of (HAG.out _)))
                repeat (go_big_quiet_step (fail))
                refine wpQuiet_nil ?_
                rintro _ ⟨y, rfl⟩
                clear Y0 Y1 Y2 Y3 Y4 Y5 Y6 Y7
                have hb34 := y.bel
                generalize y.w = w34 at hb34 ⊢
                have hB34 := hB33.trans (hb34.mono hB33.size)
                go_wp2_with fail
                go_ret
                exact ⟨rfl, hB34⟩
          · have he2 : (r3 != 0) = true := by simp [he]
            clear he
            go_wp2_with fail
            go_ret
            exact ⟨rfl, hB9⟩
      · have hh2 : (p3 == 0) = false := by simp [hh]
        clear hh HF3 HF4 HZ HF10 H29b
        by_cases he : r3 = 0
        · subst he
          obtain ⟨hok, hwok⟩ := HF1.out rfl
          clear HF1
          have hw9 := hB7.size
          by_cases hg : i3 = 0
          · subst hg
            go_upto_region 16 with fail
            have h8 := HS8.out hok
            obtain ⟨hl3, hla⟩ := HF5.out rfl
            obtain ⟨hg3, hga⟩ := HF6.out rfl
            have hlb := HF7.out rfl
            have hgb := HF8.out rfl
            subst hl3 hg3
            have HAL : Hid (∀ W, Calls Try.prog 44 #[.agg #[.int .i64 wx, .int .i64 wy], .agg #[.int .i64 l1, .int .i64 l2]] W fun e w' => e = .returned (.int .i64 r1) ∧ Below W.heap.size W w') := fun W => by
              rw [← hla]
              exact along_small (wx, wy) (l1, l2) W hwok hlb
            have HAG : Hid (∀ W, Calls Try.prog 44 #[.agg #[.int .i64 wx, .int .i64 wy], .agg #[.int .i64 g1, .int .i64 g2]] W fun e w' => e = .returned (.int .i64 r2) ∧ Below W.heap.size W w') := fun W => by
              rw [← hga]
              exact along_small (wx, wy) (g1, g2) W hwok hgb
            have HPW : Hid (∀ k, k < s.pockets.length → ∀ W, Calls Try.prog 44 #[.agg #[.int .i64 wx, .int .i64 wy], .agg #[.int .i64 (s.pockets.getD k ((0, 0), 0)).1.1, .int .i64 (s.pockets.getD k ((0, 0), 0)).1.2]] W fun e w' => e = .returned (.int .i64 (alongV (wx, wy) (s.pockets.getD k ((0, 0), 0)).1)) ∧ Below W.heap.size W w') := fun k hk W => along_small (wx, wy) (s.pockets.getD k ((0, 0), 0)).1 W hwok (HPK.out hok k hk)
            have bb2 : i0.bytes * s.pockets.length ≤ 281474976710656 := by rw [hz2]; omega
            have bb3 : s.pockets.length ≤ maxLen := by unfold maxLen; omega
            clear hla hga hlb hgb HF5 HF6 HF7 HF8 HPK
            obtain ⟨⟨hi1, hi2⟩, hi3⟩ := HF2.out (by trivial) (by trivial)
            have HA2 : Hid (∀ x : Ext w7, Calls Try.prog 44 #[.agg #[.int .i64 wx, .int .i64 wy], .agg #[.int .i64 i1, .int .i64 i2]] x.w fun e w' => e = .returned (.int .i64 (alongV (wx, wy) (i1, i2))) ∧ Below x.w.heap.size x.w w') := fun x => HA.out x.w hwok hi3
            clear hi3 HA HF2
            generalize alongV (wx, wy) (i1, i2) = al at *
            have hi4 : decide (al < r1) = false := by simp; omega
            have hi5 : decide (r2 < al) = false := by simp; omega
            clear hi1 hi2
            have a2 := Q7.cell 2
            have a3 := Q7.cell 3
            have m1 := M7.cell 0
            have m2 := M7.cell 1
            have r4 := R7.cell 0
            have r5 := R7.cell 1
            simp at a2 a3 m1 m2 r4 r5
            have Y0 := fun x : Ext w7 => keepc x.bel a2
            have Y1 := fun x : Ext w7 => keepc x.bel a3
            have Y2 := fun x : Ext w7 => keepc x.bel m1
            have Y3 := fun x : Ext w7 => keepc x.bel m2
            have Y4 := fun x : Ext w7 => keepc x.bel r4
            have Y5 := fun x : Ext w7 => keepc x.bel r5
            clear a2 a3 m1 m2 r4 r5 hwok
            refine wp_region_ext (by kernel_rfl) (by kernel_rfl) ?_
            repeat (go_big_quiet_step ((go_at_call 44; exact ext_of (HA2.out _))))
            refine wpQuiet_nil ?_
            rintro _ ⟨y, rfl⟩
            clear Y0 Y1 Y2 Y3 Y4 Y5 HA2 hi4 hi5
            have hb20 := y.bel
            generalize y.w = w20 at hb20 ⊢
            have hB20 := hB7.trans (hb20.mono hB7.size)
            have T20 : Bk w20 w.heap.size 28 (s.cells z) := T7.keep hb20
            have Q20 := Q7.keep hb20
            have R20 := R7.keep hb20
            clear T7 Q7 R7 M7 hB7 hb20
            have Tl := T20.lt
            have Ql := Q20.lt
            have Rl := R20.lt
            obtain ⟨x0, x1, x2, x3, x4, x5, x6, x7⟩ := stn_cell0 T20
            go_upto_region 19 with (at_make; refine (wpList_make_full _ rfl _ _ 22 rfl w20.heap.size 3 i0 _ 1 Try.underlying22 hi0 hz0 hz1 .i64 .i64 _ _ s.pockets.length rfl rfl rfl rfl bb2 bb3 (Nat.le_refl _) ?_); intro w21 hown hgr)
            have hmade : (madeCells (Value.int IntKind.i64 0).cells (s.pockets.length * 1)).toList = intCells (List.replicate s.pockets.length 0) := by
              rw [Nat.mul_one]
              show (madeCells #[Value.int IntKind.i64 0] s.pockets.length).toList = _
              rw [toList_madeCells_one]
              simp [intCells]
            rw [hmade] at hown
            have hC21 : Below w20.heap.size w20 w21 := (Below.refl _ _).grown hgr (Nat.le_refl _) (fun r e => by cases e)
            clear x0 x1 x2 x3 x4 x5 x6 x7
            have T21 := T20.keep hC21
            obtain ⟨x0, x1, x2, x3, x4, x5, x6, x7⟩ := stn_cell0 T21
            go_wp2_with (at_make; refine (wpList_make_full _ rfl _ _ 22 rfl w21.heap.size 3 i0 _ 1 Try.underlying22 hi0 hz0 hz1 .i64 .i64 _ _ s.pockets.length rfl rfl rfl rfl bb2 bb3 (Nat.le_refl _) ?_); intro w22 hown2 hgr2)
            rw [hmade] at hown2
            have hC22 : Below w21.heap.size w21 w22 := (Below.refl _ _).grown hgr2 (Nat.le_refl _) (fun r e => by cases e)
            have hown3 := own_keep hown hC22
            have hgl : w20.heap.size < w21.heap.size := (hown.lt _ rfl).2
            have hC := hC21.trans (hC22.mono hC21.size)
            clear hown hmade hgr hgr2 bb2 bb3 hC21 hC22 x0 x1 x2 x3 x4 x5 x6 x7 T21
            rw [← endL_zero s lowC (wx, wy)] at hown3
            rw [← endL_zero s highC (wx, wy)] at hown2
            have hown2 := own_base hown2 (show w20.heap.size ≤ w21.heap.size by omega)
            generalize w21.heap.size = G2 at *
            obtain ⟨G1, hG1⟩ : ∃ g, w20.heap.size = g := ⟨_, rfl⟩
            have hG1l : G1 ≤ w20.heap.size := by omega
            have hGw : w.heap.size ≤ G1 := by have := hB20.size; omega
            rw [hG1] at hown2 hown3 hgl ⊢
            rw [hG1] at Tl Ql Rl hC
            clear hG1
            go_loopw [18] (fun i wr => ∃ k : Nat, k ≤ s.pockets.length ∧ i = .int .i64 k ∧ wr.ownsRow G1 3 1 (.slice (some ⟨G1, 0, none⟩) s.pockets.length s.pockets.length) s.pockets.length (intCells (endL s lowC (wx, wy) k)) ∧ wr.ownsRow G1 3 1 (.slice (some ⟨G2, 0, none⟩) s.pockets.length s.pockets.length) s.pockets.length (intCells (endL s highC (wx, wy) k)) ∧ Below G1 w20 wr) (fun i _ => s.pockets.length - (intOf i).toNat)
            case atStart => exact ⟨0, Nat.zero_le _, rfl, hown3, hown2, hC⟩
            case round =>
              clear hown3 hown2 hC
              obtain ⟨k, hk, rfl, hown1, hown2, hBr⟩ := hrel
              have Tr := T20.below hBr Tl
              have Qr := Q20.below hBr Ql
              obtain ⟨x0, x1, x2, x3, x4, x5, x6, x7⟩ := stn_cell0 Tr
              have a2 := Qr.cell 2
              have a3 := Qr.cell 3
              simp at a2 a3
              have hBw : Below w.heap.size w wr := hB20.trans (hBr.mono hGw)
              have hlt1 : G1 < wr.heap.size := (hown1.lt _ rfl).2
              by_cases hlt : k < s.pockets.length
              · have hI : (k : Int) < s.pockets.length := by omega
                obtain ⟨b, off, hA, hb, hc⟩ := hs.pockets.pk (by omega)
                obtain ⟨c0, c1, c2⟩ := hc k hlt
                have c0' := keepc hBw c0
                have c1' := keepc hBw c1
                have c2' := keepc hBw c2
                rw [hA] at x6
                have HPK2 : Hid (∀ x : Ext wr, Calls Try.prog 44 #[.agg #[.int .i64 wx, .int .i64 wy], .agg #[.int .i64 (s.pockets.getD k ((0, 0), 0)).1.1, .int .i64 (s.pockets.getD k ((0, 0), 0)).1.2]] x.w fun e w' => e = .returned (.int .i64 (alongV (wx, wy) (s.pockets.getD k ((0, 0), 0)).1)) ∧ Below x.w.heap.size x.w w') := fun x => HPW.out k hlt x.w
                have HLY : Hid (lowC (alongV (wx, wy) (s.pockets.getD k ((0, 0), 0)).1) = true → (endL s lowC (wx, wy) k).set k (s.pockets.getD k ((0, 0), 0)).2 = endL s lowC (wx, wy) (k + 1)) := fun h => endL_yes s lowC (wx, wy) h
                have HLN : Hid (lowC (alongV (wx, wy) (s.pockets.getD k ((0, 0), 0)).1) = false → endL s lowC (wx, wy) (k + 1) = endL s lowC (wx, wy) k) := fun h => endL_no s lowC (wx, wy) h
                have HHY : Hid (highC (alongV (wx, wy) (s.pockets.getD k ((0, 0), 0)).1) = true → (endL s highC (wx, wy) k).set k (s.pockets.getD k ((0, 0), 0)).2 = endL s highC (wx, wy) (k + 1)) := fun h => endL_yes s highC (wx, wy) h
                have HHN : Hid (highC (alongV (wx, wy) (s.pockets.getD k ((0, 0), 0)).1) = false → endL s highC (wx, wy) (k + 1) = endL s highC (wx, wy) k) := fun h => endL_no s highC (wx, wy) h
                have hel := endL_len s lowC (wx, wy) k
                have heg := endL_len s highC (wx, wy) k
                clear hc c0 c1 c2 hA
                generalize s.pockets.getD k ((0, 0), 0) = d at *
                obtain ⟨⟨dx, dy⟩, dm⟩ := d
                simp only at c0' c1' c2' HPK2 HLY HLN HHY HHN
                generalize endL s lowC (wx, wy) k = E1 at *
                generalize endL s highC (wx, wy) k = E2 at *
                obtain ⟨E3, hE3⟩ : ∃ E, endL s lowC (wx, wy) (k + 1) = E := ⟨_, rfl⟩
                obtain ⟨E4, hE4⟩ : ∃ E, endL s highC (wx, wy) (k + 1) = E := ⟨_, rfl⟩
                rw [hE3] at HLY HLN
                rw [hE4] at HHY HHN
                have HE3 := Lib.hid hE3
                have HE4 := Lib.hid hE4
                clear hE3 hE4
                generalize alongV (wx, wy) (dx, dy) = av at *
                go_upto_region 23 with fail
                refine wp_region_ext (by kernel_rfl) (by kernel_rfl) ?_
                have Y0 := fun x : Ext wr => keepc x.bel a2
                have Y1 := fun x : Ext wr => keepc x.bel a3
                have Y2 := fun x : Ext wr => keepc x.bel x6
                have Y3 := fun x : Ext wr => keepc x.bel c0'
                have Y4 := fun x : Ext wr => keepc x.bel c1'
                clear x0 x1 x2 x3 x4 x5 x7 a2 a3 c0' c1'
                repeat (go_big_quiet_step ((go_at_call 44; exact ext_of (HPK2.out _))))
                refine wpQuiet_nil ?_
                rintro _ ⟨y, rfl⟩
                clear Y0 Y1 Y2 Y3 Y4 HPK2
                have hb30 := y.bel
                generalize y.w = w30 at hb30 ⊢
                have hC30 := hBr.trans (hb30.mono (by omega))
                replace x6 := keepc hb30 x6
                replace c2' := keepc hb30 c2'
                replace hown1 := own_keep hown1 hb30
                replace hown2 := own_keep hown2 hb30
                have hG2l : G1 ≤ G2 := by omega
                clear hBr hb30 hBw Tr Qr hlt1
                have fz1 := hown1.frozenAt k
                have fz2 := hown2.frozenAt k
                obtain ⟨v1, hv1⟩ : ∃ v0, (intCells E1)[k]? = some v0 := ⟨_, List.getElem?_eq_getElem (by rw [intCells_len, hel]; exact hlt)⟩
                obtain ⟨v2, hv2⟩ : ∃ v0, (intCells E2)[k]? = some v0 := ⟨_, List.getElem?_eq_getElem (by rw [intCells_len, heg]; exact hlt)⟩
                have cc1 := (hown1.cellAt k (by omega)).trans hv1
                have cc2 := (hown2.cellAt k (by omega)).trans hv2
                have ho1 := (hown1.stored k (.int .i64 dm)).1
                have ho2 := (hown2.stored k (.int .i64 dm)).1
                have ho3 := ownsRow_setCell_other hown1 (a := ⟨G2, k, none⟩) (by simp [Value.ownBlock]; omega) (.int .i64 dm)
                have ho4 := ownsRow_setCell_other hown2 (a := ⟨G1, k, none⟩) (by simp [Value.ownBlock]; omega) (.int .i64 dm)
                rw [show (intCells E1).set k (.int .i64 dm) = intCells (E1.set k dm) by simp [intCells, List.map_set]] at ho1
                rw [show (intCells E2).set k (.int .i64 dm) = intCells (E2.set k dm) by simp [intCells, List.map_set]] at ho2
                rcases Int.lt_trichotomy av 0 with hav | hav | hav
                · have e1 := HLY.out (by simp [lowC, hav])
                  have e2 := HHN.out (by simp [highC]; omega)
                  rw [e1] at ho1
                  rw [← e2] at ho4
                  have HO := Lib.hid (And.intro ho1 (And.intro ho4 hC30))
                  clear ho1 ho2 ho3 ho4 e1 e2 hC30 hown1 hown2 hv1 hv2 HLY HLN HHY HHN
                  go_wp2_with fail
                  go_roundw
                  case rel => exact ⟨k + 1, by omega, by go_num, by rw [HE3.out]; exact HO.out.1, by rw [HE4.out]; exact HO.out.2.1, HO.out.2.2.setCell (by simp <;> omega) _⟩
                  case measure => simp [intOf]; omega
                · have e1 := HLN.out (by simp [lowC, hav])
                  have e2 := HHN.out (by simp [highC, hav])
                  rw [← e1] at hown1
                  rw [← e2] at hown2
                  have HO := Lib.hid (And.intro hown1 (And.intro hown2 hC30))
                  subst hav
                  clear ho1 ho2 ho3 ho4 e1 e2 hC30 hown1 hown2 hv1 hv2 HLY HLN HHY HHN
                  go_wp2_with fail
                  go_roundw
                  case rel => exact ⟨k + 1, by omega, by go_num, by rw [HE3.out]; exact HO.out.1, by rw [HE4.out]; exact HO.out.2.1, HO.out.2.2⟩
                  case measure => simp [intOf]; omega
                · have e1 := HLN.out (by simp [lowC]; omega)
                  have e2 := HHY.out (by simp [highC, hav])
                  rw [e2] at ho2
                  rw [← e1] at ho3
                  have HO := Lib.hid (And.intro ho3 (And.intro ho2 hC30))
                  clear ho1 ho2 ho3 ho4 e1 e2 hC30 hown1 hown2 hv1 hv2 HLY HLN HHY HHN
                  go_wp2_with fail
                  go_roundw
                  case rel => exact ⟨k + 1, by omega, by go_num, by rw [HE3.out]; exact HO.out.1, by rw [HE4.out]; exact HO.out.2.1, HO.out.2.2.setCell (by simp <;> omega) _⟩
                  case measure => simp [intOf]; omega
              · obtain rfl : k = s.pockets.length := by omega
                have Rr := R20.below hBr Rl
                have HR2 := Lib.hid (row_of_own hown2)
                have HR1 := Lib.hid (row_of_own hown1)
                clear hown1 hown2 hBr hlt1
                have hTl := Tr.lt
                go_wp2_with fail
                refine (HL.out _ _ _ hBw h8 HR1.out).mono ?_
                rintro e w31 ⟨rfl, hb31⟩
                have T31 : Bk w31 w.heap.size 28 (s.cells z) := Bk.keep Tr hb31
                have Q31 := Qr.keep hb31
                have R31 := Rr.keep hb31
                have hB31 := hBw.trans (hb31.mono hBw.size)
                have HR3 := Lib.hid (HR2.out.below hb31)
                clear HR1 HR2 Tr Qr Rr hBw hb31 x0 x1 x2 x3 x4 x5 x6 x7 a2 a3 hTl
                obtain ⟨x0, x1, x2, x3, x4, x5, x6, x7⟩ := stn_cell0 T31
                have hTl := T31.lt
                have L31 : Bk (w31.alloc (.cells #[.int .i64 l1, .int .i64 l2] 43)) w31.heap.size 43 #[.int .i64 l1, .int .i64 l2] := bk_last rfl
                have hC31 := hB31.alloc hB31.size (.cells #[.int .i64 l1, .int .i64 l2] 43)
                go_wp2_with fail
                refine (HH.out _ _ _ hC31 h8 (HR3.out.alloc _)).mono ?_
                rintro e w32 ⟨rfl, hb32⟩
                have Q32 := (Q31.alloc _).keep hb32
                have R32 := (R31.alloc _).keep hb32
                have L32 := L31.keep hb32
                have hB32 := hC31.trans (hb32.mono hC31.size)
                clear HR3 T31 Q31 R31 L31 hB31 hC31 hb32 x0 x1 x2 x3 x4 x5 x6 x7 hTl
                generalize w31.heap.size = bl at *
                have N33 : Bk (w32.alloc (.cells #[.int .i64 g1, .int .i64 g2] 43)) w32.heap.size 43 #[.int .i64 g1, .int .i64 g2] := bk_last rfl
                have hB33 := hB32.alloc hB32.size (.cells #[.int .i64 g1, .int .i64 g2] 43)
                have Q33 := Q32.alloc (.cells #[.int .i64 g1, .int .i64 g2] 43)
                have R33 := R32.alloc (.cells #[.int .i64 g1, .int .i64 g2] 43)
                have L33 := L32.alloc (.cells #[.int .i64 g1, .int .i64 g2] 43)
                clear Q32 R32 L32 hB32
                go_upto_region 30 with fail
                generalize w32.alloc (.cells _ 43) = w33 at *
                generalize w32.heap.size = bn at *
                have a2 := Q33.cell 2
                have a3 := Q33.cell 3
                have q0 := R33.cell 0
                have q1 := R33.cell 1
                have q2 := L33.cell 0
                have q3 := L33.cell 1
                have q4 := N33.cell 0
                have q5 := N33.cell 1
                simp at a2 a3 q0 q1 q2 q3 q4 q5
                have Y0 := fun x : Ext w33 => keepc x.bel a2
                have Y1 := fun x : Ext w33 => keepc x.bel a3
                have Y2 := fun x : Ext w33 => keepc x.bel q0
                have Y3 := fun x : Ext w33 => keepc x.bel q1
                have Y4 := fun x : Ext w33 => keepc x.bel q2
                have Y5 := fun x : Ext w33 => keepc x.bel q3
                have Y6 := fun x : Ext w33 => keepc x.bel q4
                have Y7 := fun x : Ext w33 => keepc x.bel q5
                have e1 : (r1 == r1) = true := by simp
                have e2 : (r2 == r2) = true := by simp
                clear a2 a3 q0 q1 q2 q3 q4 q5
                refine wp_region_ext (by kernel_rfl) (by kernel_rfl) ?_
                repeat (go_big_quiet_step (fail))
                go_big_quiet_step ((go_at_call 44; exact ext_of (HAL.out _)))
                repeat (go_big_quiet_step (fail))
                go_big_quiet_step ((go_at_call 44; exact ext_of (HAG.out _)))
                repeat (go_big_quiet_step (fail))
                refine wpQuiet_nil ?_
                rintro _ ⟨y, rfl⟩
                clear Y0 Y1 Y2 Y3 Y4 Y5 Y6 Y7
                have hb34 := y.bel
                generalize y.w = w34 at hb34 ⊢
                have hB34 := hB33.trans (hb34.mono hB33.size)
                go_wp2_with fail
                go_ret
                exact ⟨rfl, hB34⟩
          · have hg2 : (i3 == 0) = false := by simp [hg]
            clear hg
            go_upto_region 16 with fail
            have h8 := HS8.out hok
            obtain ⟨hl3, hla⟩ := HF5.out rfl
            obtain ⟨hg3, hga⟩ := HF6.out rfl
            have hlb := HF7.out rfl
            have hgb := HF8.out rfl
            subst hl3 hg3
            have HAL : Hid (∀ W, Calls Try.prog 44 #[.agg #[.int .i64 wx, .int .i64 wy], .agg #[.int .i64 l1, .int .i64 l2]] W fun e w' => e = .returned (.int .i64 r1) ∧ Below W.heap.size W w') := fun W => by
              rw [← hla]
              exact along_small (wx, wy) (l1, l2) W hwok hlb
            have HAG : Hid (∀ W, Calls Try.prog 44 #[.agg #[.int .i64 wx, .int .i64 wy], .agg #[.int .i64 g1, .int .i64 g2]] W fun e w' => e = .returned (.int .i64 r2) ∧ Below W.heap.size W w') := fun W => by
              rw [← hga]
              exact along_small (wx, wy) (g1, g2) W hwok hgb
            have HPW : Hid (∀ k, k < s.pockets.length → ∀ W, Calls Try.prog 44 #[.agg #[.int .i64 wx, .int .i64 wy], .agg #[.int .i64 (s.pockets.getD k ((0, 0), 0)).1.1, .int .i64 (s.pockets.getD k ((0, 0), 0)).1.2]] W fun e w' => e = .returned (.int .i64 (alongV (wx, wy) (s.pockets.getD k ((0, 0), 0)).1)) ∧ Below W.heap.size W w') := fun k hk W => along_small (wx, wy) (s.pockets.getD k ((0, 0), 0)).1 W hwok (HPK.out hok k hk)
            have bb2 : i0.bytes * s.pockets.length ≤ 281474976710656 := by rw [hz2]; omega
            have bb3 : s.pockets.length ≤ maxLen := by unfold maxLen; omega
            clear hla hga hlb hgb HF5 HF6 HF7 HF8 HPK
            clear HA HF2
            have a2 := Q7.cell 2
            have a3 := Q7.cell 3
            have m1 := M7.cell 0
            have m2 := M7.cell 1
            have r4 := R7.cell 0
            have r5 := R7.cell 1
            simp at a2 a3 m1 m2 r4 r5
            have Y0 := fun x : Ext w7 => keepc x.bel a2
            have Y1 := fun x : Ext w7 => keepc x.bel a3
            have Y2 := fun x : Ext w7 => keepc x.bel m1
            have Y3 := fun x : Ext w7 => keepc x.bel m2
            have Y4 := fun x : Ext w7 => keepc x.bel r4
            have Y5 := fun x : Ext w7 => keepc x.bel r5
            clear a2 a3 m1 m2 r4 r5 hwok
            refine wp_region_ext (by kernel_rfl) (by kernel_rfl) ?_
            repeat (go_big_quiet_step (fail))
            refine wpQuiet_nil ?_
            rintro _ ⟨y, rfl⟩
            clear Y0 Y1 Y2 Y3 Y4 Y5
            have hb20 := y.bel
            generalize y.w = w20 at hb20 ⊢
            have hB20 := hB7.trans (hb20.mono hB7.size)
            have T20 : Bk w20 w.heap.size 28 (s.cells z) := T7.keep hb20
            have Q20 := Q7.keep hb20
            have R20 := R7.keep hb20
            clear T7 Q7 R7 M7 hB7 hb20
            have Tl := T20.lt
            have Ql := Q20.lt
            have Rl := R20.lt
            obtain ⟨x0, x1, x2, x3, x4, x5, x6, x7⟩ := stn_cell0 T20
            go_upto_region 19 with (at_make; refine (wpList_make_full _ rfl _ _ 22 rfl w20.heap.size 3 i0 _ 1 Try.underlying22 hi0 hz0 hz1 .i64 .i64 _ _ s.pockets.length rfl rfl rfl rfl bb2 bb3 (Nat.le_refl _) ?_); intro w21 hown hgr)
            have hmade : (madeCells (Value.int IntKind.i64 0).cells (s.pockets.length * 1)).toList = intCells (List.replicate s.pockets.length 0) := by
              rw [Nat.mul_one]
              show (madeCells #[Value.int IntKind.i64 0] s.pockets.length).toList = _
              rw [toList_madeCells_one]
              simp [intCells]
            rw [hmade] at hown
            have hC21 : Below w20.heap.size w20 w21 := (Below.refl _ _).grown hgr (Nat.le_refl _) (fun r e => by cases e)
            clear x0 x1 x2 x3 x4 x5 x6 x7
            have T21 := T20.keep hC21
            obtain ⟨x0, x1, x2, x3, x4, x5, x6, x7⟩ := stn_cell0 T21
            go_wp2_with (at_make; refine (wpList_make_full _ rfl _ _ 22 rfl w21.heap.size 3 i0 _ 1 Try.underlying22 hi0 hz0 hz1 .i64 .i64 _ _ s.pockets.length rfl rfl rfl rfl bb2 bb3 (Nat.le_refl _) ?_); intro w22 hown2 hgr2)
            rw [hmade] at hown2
            have hC22 : Below w21.heap.size w21 w22 := (Below.refl _ _).grown hgr2 (Nat.le_refl _) (fun r e => by cases e)
            have hown3 := own_keep hown hC22
            have hgl : w20.heap.size < w21.heap.size := (hown.lt _ rfl).2
            have hC := hC21.trans (hC22.mono hC21.size)
            clear hown hmade hgr hgr2 bb2 bb3 hC21 hC22 x0 x1 x2 x3 x4 x5 x6 x7 T21
            rw [← endL_zero s lowC (wx, wy)] at hown3
            rw [← endL_zero s highC (wx, wy)] at hown2
            have hown2 := own_base hown2 (show w20.heap.size ≤ w21.heap.size by omega)
            generalize w21.heap.size = G2 at *
            obtain ⟨G1, hG1⟩ : ∃ g, w20.heap.size = g := ⟨_, rfl⟩
            have hG1l : G1 ≤ w20.heap.size := by omega
            have hGw : w.heap.size ≤ G1 := by have := hB20.size; omega
            rw [hG1] at hown2 hown3 hgl ⊢
            rw [hG1] at Tl Ql Rl hC
            clear hG1
            go_loopw [18] (fun i wr => ∃ k : Nat, k ≤ s.pockets.length ∧ i = .int .i64 k ∧ wr.ownsRow G1 3 1 (.slice (some ⟨G1, 0, none⟩) s.pockets.length s.pockets.length) s.pockets.length (intCells (endL s lowC (wx, wy) k)) ∧ wr.ownsRow G1 3 1 (.slice (some ⟨G2, 0, none⟩) s.pockets.length s.pockets.length) s.pockets.length (intCells (endL s highC (wx, wy) k)) ∧ Below G1 w20 wr) (fun i _ => s.pockets.length - (intOf i).toNat)
            case atStart => exact ⟨0, Nat.zero_le _, rfl, hown3, hown2, hC⟩
            case round =>
              clear hown3 hown2 hC
              obtain ⟨k, hk, rfl, hown1, hown2, hBr⟩ := hrel
              have Tr := T20.below hBr Tl
              have Qr := Q20.below hBr Ql
              obtain ⟨x0, x1, x2, x3, x4, x5, x6, x7⟩ := stn_cell0 Tr
              have a2 := Qr.cell 2
              have a3 := Qr.cell 3
              simp at a2 a3
              have hBw : Below w.heap.size w wr := hB20.trans (hBr.mono hGw)
              have hlt1 : G1 < wr.heap.size := (hown1.lt _ rfl).2
              by_cases hlt : k < s.pockets.length
              · have hI : (k : Int) < s.pockets.length := by omega
                obtain ⟨b, off, hA, hb, hc⟩ := hs.pockets.pk (by omega)
                obtain ⟨c0, c1, c2⟩ := hc k hlt
                have c0' := keepc hBw c0
                have c1' := keepc hBw c1
                have c2' := keepc hBw c2
                rw [hA] at x6
                have HPK2 : Hid (∀ x : Ext wr, Calls Try.prog 44 #[.agg #[.int .i64 wx, .int .i64 wy], .agg #[.int .i64 (s.pockets.getD k ((0, 0), 0)).1.1, .int .i64 (s.pockets.getD k ((0, 0), 0)).1.2]] x.w fun e w' => e = .returned (.int .i64 (alongV (wx, wy) (s.pockets.getD k ((0, 0), 0)).1)) ∧ Below x.w.heap.size x.w w') := fun x => HPW.out k hlt x.w
                have HLY : Hid (lowC (alongV (wx, wy) (s.pockets.getD k ((0, 0), 0)).1) = true → (endL s lowC (wx, wy) k).set k (s.pockets.getD k ((0, 0), 0)).2 = endL s lowC (wx, wy) (k + 1)) := fun h => endL_yes s lowC (wx, wy) h
                have HLN : Hid (lowC (alongV (wx, wy) (s.pockets.getD k ((0, 0), 0)).1) = false → endL s lowC (wx, wy) (k + 1) = endL s lowC (wx, wy) k) := fun h => endL_no s lowC (wx, wy) h
                have HHY : Hid (highC (alongV (wx, wy) (s.pockets.getD k ((0, 0), 0)).1) = true → (endL s highC (wx, wy) k).set k (s.pockets.getD k ((0, 0), 0)).2 = endL s highC (wx, wy) (k + 1)) := fun h => endL_yes s highC (wx, wy) h
                have HHN : Hid (highC (alongV (wx, wy) (s.pockets.getD k ((0, 0), 0)).1) = false → endL s highC (wx, wy) (k + 1) = endL s highC (wx, wy) k) := fun h => endL_no s highC (wx, wy) h
                have hel := endL_len s lowC (wx, wy) k
                have heg := endL_len s highC (wx, wy) k
                clear hc c0 c1 c2 hA
                generalize s.pockets.getD k ((0, 0), 0) = d at *
                obtain ⟨⟨dx, dy⟩, dm⟩ := d
                simp only at c0' c1' c2' HPK2 HLY HLN HHY HHN
                generalize endL s lowC (wx, wy) k = E1 at *
                generalize endL s highC (wx, wy) k = E2 at *
                obtain ⟨E3, hE3⟩ : ∃ E, endL s lowC (wx, wy) (k + 1) = E := ⟨_, rfl⟩
                obtain ⟨E4, hE4⟩ : ∃ E, endL s highC (wx, wy) (k + 1) = E := ⟨_, rfl⟩
                rw [hE3] at HLY HLN
                rw [hE4] at HHY HHN
                have HE3 := Lib.hid hE3
                have HE4 := Lib.hid hE4
                clear hE3 hE4
                generalize alongV (wx, wy) (dx, dy) = av at *
                go_upto_region 23 with fail
                refine wp_region_ext (by kernel_rfl) (by kernel_rfl) ?_
                have Y0 := fun x : Ext wr => keepc x.bel a2
                have Y1 := fun x : Ext wr => keepc x.bel a3
                have Y2 := fun x : Ext wr => keepc x.bel x6
                have Y3 := fun x : Ext wr => keepc x.bel c0'
                have Y4 := fun x : Ext wr => keepc x.bel c1'
                clear x0 x1 x2 x3 x4 x5 x7 a2 a3 c0' c1'
                repeat (go_big_quiet_step ((go_at_call 44; exact ext_of (HPK2.out _))))
                refine wpQuiet_nil ?_
                rintro _ ⟨y, rfl⟩
                clear Y0 Y1 Y2 Y3 Y4 HPK2
                have hb30 := y.bel
                generalize y.w = w30 at hb30 ⊢
                have hC30 := hBr.trans (hb30.mono (by omega))
                replace x6 := keepc hb30 x6
                replace c2' := keepc hb30 c2'
                replace hown1 := own_keep hown1 hb30
                replace hown2 := own_keep hown2 hb30
                have hG2l : G1 ≤ G2 := by omega
                clear hBr hb30 hBw Tr Qr hlt1
                have fz1 := hown1.frozenAt k
                have fz2 := hown2.frozenAt k
                obtain ⟨v1, hv1⟩ : ∃ v0, (intCells E1)[k]? = some v0 := ⟨_, List.getElem?_eq_getElem (by rw [intCells_len, hel]; exact hlt)⟩
                obtain ⟨v2, hv2⟩ : ∃ v0, (intCells E2)[k]? = some v0 := ⟨_, List.getElem?_eq_getElem (by rw [intCells_len, heg]; exact hlt)⟩
                have cc1 := (hown1.cellAt k (by omega)).trans hv1
                have cc2 := (hown2.cellAt k (by omega)).trans hv2
                have ho1 := (hown1.stored k (.int .i64 dm)).1
                have ho2 := (hown2.stored k (.int .i64 dm)).1
                have ho3 := ownsRow_setCell_other hown1 (a := ⟨G2, k, none⟩) (by simp [Value.ownBlock]; omega) (.int .i64 dm)
                have ho4 := ownsRow_setCell_other hown2 (a := ⟨G1, k, none⟩) (by simp [Value.ownBlock]; omega) (.int .i64 dm)
                rw [show (intCells E1).set k (.int .i64 dm) = intCells (E1.set k dm) by simp [intCells, List.map_set]] at ho1
                rw [show (intCells E2).set k (.int .i64 dm) = intCells (E2.set k dm) by simp [intCells, List.map_set]] at ho2
                rcases Int.lt_trichotomy av 0 with hav | hav | hav
                · have e1 := HLY.out (by simp [lowC, hav])
                  have e2 := HHN.out (by simp [highC]; omega)
                  rw [e1] at ho1
                  rw [← e2] at ho4
                  have HO := Lib.hid (And.intro ho1 (And.intro ho4 hC30))
                  clear ho1 ho2 ho3 ho4 e1 e2 hC30 hown1 hown2 hv1 hv2 HLY HLN HHY HHN
                  go_wp2_with fail
                  go_roundw
                  case rel => exact ⟨k + 1, by omega, by go_num, by rw [HE3.out]; exact HO.out.1, by rw [HE4.out]; exact HO.out.2.1, HO.out.2.2.setCell (by simp <;> omega) _⟩
                  case measure => simp [intOf]; omega
                · have e1 := HLN.out (by simp [lowC, hav])
                  have e2 := HHN.out (by simp [highC, hav])
                  rw [← e1] at hown1
                  rw [← e2] at hown2
                  have HO := Lib.hid (And.intro hown1 (And.intro hown2 hC30))
                  subst hav
                  clear ho1 ho2 ho3 ho4 e1 e2 hC30 hown1 hown2 hv1 hv2 HLY HLN HHY HHN
                  go_wp2_with fail
                  go_roundw
                  case rel => exact ⟨k + 1, by omega, by go_num, by rw [HE3.out]; exact HO.out.1, by rw [HE4.out]; exact HO.out.2.1, HO.out.2.2⟩
                  case measure => simp [intOf]; omega
                · have e1 := HLN.out (by simp [lowC]; omega)
                  have e2 := HHY.out (by simp [highC, hav])
                  rw [e2] at ho2
                  rw [← e1] at ho3
                  have HO := Lib.hid (And.intro ho3 (And.intro ho2 hC30))
                  clear ho1 ho2 ho3 ho4 e1 e2 hC30 hown1 hown2 hv1 hv2 HLY HLN HHY HHN
                  go_wp2_with fail
                  go_roundw
                  case rel => exact ⟨k + 1, by omega, by go_num, by rw [HE3.out]; exact HO.out.1, by rw [HE4.out]; exact HO.out.2.1, HO.out.2.2.setCell (by simp <;> omega) _⟩
                  case measure => simp [intOf]; omega
              · obtain rfl : k = s.pockets.length := by omega
                have Rr := R20.below hBr Rl
                have HR2 := Lib.hid (row_of_own hown2)
                have HR1 := Lib.hid (row_of_own hown1)
                clear hown1 hown2 hBr hlt1
                have hTl := Tr.lt
                go_wp2_with fail
                refine (HL.out _ _ _ hBw h8 HR1.out).mono ?_
                rintro e w31 ⟨rfl, hb31⟩
                have T31 : Bk w31 w.heap.size 28 (s.cells z) := Bk.keep Tr hb31
                have Q31 := Qr.keep hb31
                have R31 := Rr.keep hb31
                have hB31 := hBw.trans (hb31.mono hBw.size)
                have HR3 := Lib.hid (HR2.out.below hb31)
                clear HR1 HR2 Tr Qr Rr hBw hb31 x0 x1 x2 x3 x4 x5 x6 x7 a2 a3 hTl
                obtain ⟨x0, x1, x2, x3, x4, x5, x6, x7⟩ := stn_cell0 T31
                have hTl := T31.lt
                have L31 : Bk (w31.alloc (.cells #[.int .i64 l1, .int .i64 l2] 43)) w31.heap.size 43 #[.int .i64 l1, .int .i64 l2] := bk_last rfl
                have hC31 := hB31.alloc hB31.size (.cells #[.int .i64 l1, .int .i64 l2] 43)
                go_wp2_with fail
                refine (HH.out _ _ _ hC31 h8 (HR3.out.alloc _)).mono ?_
                rintro e w32 ⟨rfl, hb32⟩
                have Q32 := (Q31.alloc _).keep hb32
                have R32 := (R31.alloc _).keep hb32
                have L32 := L31.keep hb32
                have hB32 := hC31.trans (hb32.mono hC31.size)
                clear HR3 T31 Q31 R31 L31 hB31 hC31 hb32 x0 x1 x2 x3 x4 x5 x6 x7 hTl
                generalize w31.heap.size = bl at *
                have N33 : Bk (w32.alloc (.cells #[.int .i64 g1, .int .i64 g2] 43)) w32.heap.size 43 #[.int .i64 g1, .int .i64 g2] := bk_last rfl
                have hB33 := hB32.alloc hB32.size (.cells #[.int .i64 g1, .int .i64 g2] 43)
                have Q33 := Q32.alloc (.cells #[.int .i64 g1, .int .i64 g2] 43)
                have R33 := R32.alloc (.cells #[.int .i64 g1, .int .i64 g2] 43)
                have L33 := L32.alloc (.cells #[.int .i64 g1, .int .i64 g2] 43)
                clear Q32 R32 L32 hB32
                go_upto_region 30 with fail
                generalize w32.alloc (.cells _ 43) = w33 at *
                generalize w32.heap.size = bn at *
                have a2 := Q33.cell 2
                have a3 := Q33.cell 3
                have q0 := R33.cell 0
                have q1 := R33.cell 1
                have q2 := L33.cell 0
                have q3 := L33.cell 1
                have q4 := N33.cell 0
                have q5 := N33.cell 1
                simp at a2 a3 q0 q1 q2 q3 q4 q5
                have Y0 := fun x : Ext w33 => keepc x.bel a2
                have Y1 := fun x : Ext w33 => keepc x.bel a3
                have Y2 := fun x : Ext w33 => keepc x.bel q0
                have Y3 := fun x : Ext w33 => keepc x.bel q1
                have Y4 := fun x : Ext w33 => keepc x.bel q2
                have Y5 := fun x : Ext w33 => keepc x.bel q3
                have Y6 := fun x : Ext w33 => keepc x.bel q4
                have Y7 := fun x : Ext w33 => keepc x.bel q5
                have e1 : (r1 == r1) = true := by simp
                have e2 : (r2 == r2) = true := by simp
                clear a2 a3 q0 q1 q2 q3 q4 q5
                refine wp_region_ext (by kernel_rfl) (by kernel_rfl) ?_
                repeat (go_big_quiet_step (fail))
                go_big_quiet_step ((go_at_call 44; exact ext_of (HAL.out _)))
                repeat (go_big_quiet_step (fail))
                go_big_quiet_step ((go_at_call 44; exact ext_of (HAG.out _)))
                repeat (go_big_quiet_step (fail))
                refine wpQuiet_nil ?_
                rintro _ ⟨y, rfl⟩
                clear Y0 Y1 Y2 Y3 Y4 Y5 Y6 Y7
                have hb34 := y.bel
                generalize y.w = w34 at hb34 ⊢
                have hB34 := hB33.trans (hb34.mono hB33.size)
                go_wp2_with fail
                go_ret
                exact ⟨rfl, hB34⟩
        · have he2 : (r3 != 0) = true := by simp [he]
          clear he
          go_wp2_with fail
          go_ret
          exact ⟨rfl, hB7⟩
    · have m3' : 40 < (lead.length : Int) := by omega
      go_wp2_with fail
      go_ret
      exact ⟨rfl, hB2⟩

end Go.Proofs.Ythmngnfdfelkeaa
