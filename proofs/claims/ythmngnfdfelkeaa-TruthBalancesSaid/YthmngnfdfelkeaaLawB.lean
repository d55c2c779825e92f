/-
  What is proved: TruthBalances answers true.
-/
import Derived.Test.YthmngnfdfelkeaaAwake
import Derived.Test.YthmngnfdfelkeaaBalP
import Derived.Test.YthmngnfdfelkeaaFew
namespace Go.Proofs.Ythmngnfdfelkeaa
open Go.RowKit
attribute [local go_sem ↓] max_int min_int

set_option maxRecDepth 100000 in
set_option maxHeartbeats 8000000 in
theorem balances_law (s : Stn) (z : Loc) (A : Option Addr) (c : Nat) (lead : List Int) (w : World) (hs : StAt w s z) (hm : RowAt w A (intCells lead)) (hn : lead.length ≤ 9223372036854775807) :
    Calls Try.prog 8 #[s.val z, .slice A lead.length c] w fun e w' => e = .returned (.bool true) ∧ Below w.heap.size w w' := by
  have T0 : Bk (w.alloc (.cells (s.cells z) 28)) w.heap.size 28 (s.cells z) := bk_last rfl
  have hB0 : Below w.heap.size w (w.alloc (.cells (s.cells z) 28)) := (Below.refl _ _).alloc (Nat.le_refl _) _
  have HSm : Hid (∀ W, StAt W s z → Calls Try.prog 16 #[.agg (s.cells z)] W fun e w' => e = .returned (.bool (smallB s)) ∧ Below W.heap.size W w') := fun W h => small_any s z W h
  have HFe : Hid (∀ W, StAt W s z → Calls Try.prog 17 #[.agg (s.cells z)] W fun e w' => e = .returned (.bool (fewB s)) ∧ Below W.heap.size W w') := fun W h => few_any s z W h
  have HLe : Hid (∀ W, StAt W s z → Calls Try.prog 18 #[.agg (s.cells z)] W fun e w' => e = .returned (.tuple #[.int .i64 (sumL (leadR s).1), .int .i64 (leadR s).2]) ∧ Below W.heap.size W w') := fun W h => least_any s z W h
  have HLd : Hid (∀ W, StAt W s z → Calls Try.prog 20 #[.agg (s.cells z)] W fun e w' => ∃ v, e = .returned (.tuple #[v, .int .i64 (leadR s).2]) ∧ w'.ownsRow W.heap.size 3 1 v (leadR s).1.length (intCells (leadR s).1) ∧ Below W.heap.size W w') := fun W h => lead_any s z W h
  have HCo : Hid (∀ W, StAt W s z → Calls Try.prog 22 #[.agg (s.cells z)] W fun e w' => e = .returned (.tuple #[.int .i64 (countR s).1, .int .i64 (countR s).2]) ∧ Below W.heap.size W w') := fun W h => count_any s z W h
  have HBa : Hid (∀ W, Below w.heap.size w W → Calls Try.prog 33 #[.agg (s.cells z), .slice A lead.length c] W fun e w' => e = .returned (.tuple #[.bool (balR s lead).1, .int .i64 (balR s lead).2]) ∧ Below W.heap.size W w') := fun W h => bal_any s z A c lead W (hs.below h) (hm.below h) hn
  have HBb : Hid (∀ W A' c', StAt W s z → RowAt W A' (intCells (leadR s).1) → Calls Try.prog 33 #[.agg (s.cells z), .slice A' (leadR s).1.length c'] W fun e w' => e = .returned (.tuple #[.bool (balR s (leadR s).1).1, .int .i64 (balR s (leadR s).1).2]) ∧ Below W.heap.size W w') := fun W A' c' h h2 => bal_any s z A' c' (leadR s).1 W h h2 (by have := (leadR_small s).1; omega)
  have HSU : Hid (balS s) := balS_all s
  have HSL := Lib.hid (leadR_small s)
  have HQS : Hid (∀ W A' c', RowAt W A' (intCells (leadR s).1) → Calls Try.prog 34 #[.slice A' (leadR s).1.length c'] W fun e w' => e = .returned (.int .i64 (sumL (leadR s).1)) ∧ W = w') := fun W A' c' h => lsum_any A' c' (leadR s).1 W h (by have := (leadR_small s).1; omega) (fun x hx => by have := (leadR_small s).2 x hx; omega)
  unfold balS at HSU
  unfold Stn.cells at *
  unfold Stn.val Stn.cells
  generalize smallB s = sm at *
  generalize fewB s = fw at *
  generalize leadR s = LR at *
  generalize countR s = CR at *
  go_enter Try.func8, Try.ntmps8
  go_wp2_with fail
  generalize w.alloc (.cells _ 28) = V at *
  refine (awake_any _).mono ?_
  rintro e w1 ⟨rfl, hb1⟩
  have T1 : Bk w1 w.heap.size 28 (s.cells z) := T0.keep hb1
  have hB1 := hB0.trans (hb1.mono hB0.size)
  clear T0 hB0 hb1
  obtain ⟨x0, x1, x2, x3, x4, x5, x6, x7⟩ := stn_cell0 T1
  cases sm
  · go_wp2_with (go_at_call 16; refine (HSm.out _ (hs.below hB1)).mono ?_; rintro e w2 ⟨rfl, hb2⟩)
    go_ret
    exact ⟨rfl, hB1.trans (hb2.mono hB1.size)⟩
  · go_wp2_with fail
    refine (HSm.out _ (hs.below hB1)).mono ?_
    rintro e w2 ⟨rfl, hb2⟩
    have T2 := T1.keep hb2
    have hB2 := hB1.trans (hb2.mono hB1.size)
    clear T1 hB1 hb2 x0 x1 x2 x3 x4 x5 x6 x7 HSm
    obtain ⟨x0, x1, x2, x3, x4, x5, x6, x7⟩ := stn_cell0 T2
    cases fw
    · go_wp2_with (go_at_call 17; refine (HFe.out _ (hs.below hB2)).mono ?_; rintro e w3 ⟨rfl, hb3⟩)
      go_ret
      exact ⟨rfl, hB2.trans (hb3.mono hB2.size)⟩
    · go_wp2_with fail
      refine (HFe.out _ (hs.below hB2)).mono ?_
      rintro e w3 ⟨rfl, hb3⟩
      have T3 := T2.keep hb3
      have hB3 := hB2.trans (hb3.mono hB2.size)
      clear T2 hB2 hb3 x0 x1 x2 x3 x4 x5 x6 x7 HFe
      obtain ⟨x0, x1, x2, x3, x4, x5, x6, x7⟩ := stn_cell0 T3
      by_cases m1 : (lead.length : Int) ≤ 40
      · go_wp2_with fail
        refine (HLe.out _ (hs.below hB3)).mono ?_
        rintro e w4 ⟨rfl, hb4⟩
        have T4 := T3.keep hb4
        have hB4 := hB3.trans (hb4.mono hB3.size)
        clear T3 hB3 hb4 x0 x1 x2 x3 x4 x5 x6 x7 HLe
        obtain ⟨x0, x1, x2, x3, x4, x5, x6, x7⟩ := stn_cell0 T4
        go_wp2_with fail
        refine (HLd.out _ (hs.below hB4)).mono ?_
        rintro e w5 ⟨v5, rfl, ho5, hb5⟩
        obtain ⟨A5, c5, rfl, _, hr5, _⟩ := own_form ho5
        have T5 := T4.keep hb5
        have hB5 := hB4.trans (hb5.mono hB4.size)
        clear T4 hB4 hb5 ho5 x0 x1 x2 x3 x4 x5 x6 x7 HLd
        obtain ⟨x0, x1, x2, x3, x4, x5, x6, x7⟩ := stn_cell0 T5
        go_wp2_with fail
        refine (HCo.out _ (hs.below hB5)).mono ?_
        rintro e w6 ⟨rfl, hb6⟩
        have T6 := T5.keep hb6
        have hr6 := hr5.below hb6
        have hB6 := hB5.trans (hb6.mono hB5.size)
        clear T5 hB5 hb6 hr5 x0 x1 x2 x3 x4 x5 x6 x7 HCo
        obtain ⟨x0, x1, x2, x3, x4, x5, x6, x7⟩ := stn_cell0 T6
        go_wp2_with fail
        refine (HBa.out _ hB6).mono ?_
        rintro e w7 ⟨rfl, hb7⟩
        have T7 := T6.keep hb7
        have hr7 := hr6.below hb7
        have hB7 := hB6.trans (hb7.mono hB6.size)
        clear T6 hB6 hb7 hr6 x0 x1 x2 x3 x4 x5 x6 x7 HBa
        obtain ⟨x0, x1, x2, x3, x4, x5, x6, x7⟩ := stn_cell0 T7
        obtain ⟨LL, LE⟩ := LR
        obtain ⟨CN, CE⟩ := CR
        simp only at HSU HBb HQS hr7 HSL ⊢
        rcases HSU.out with ⟨e1, e2, rfl⟩ | ⟨rfl, e2, h3⟩ | ⟨rfl, rfl, e3, e4, h5⟩
        · have q1 : (CE != 0) = true := by simp at e1 ⊢; exact e1
          have q2 : (CE != 61) = true := by simp at e2 ⊢; exact e2
          have q3 : (CE != CE) = false := by simp
          go_wp2_with fail
          go_ret
          exact ⟨rfl, hB7⟩
        · obtain ⟨rfl, rfl⟩ := Prod.mk.inj e2
          by_cases he : (balR s lead).2 = 0
          · have hb := h3 _ he
            rw [he, hb]
            go_wp2_with fail
            go_ret
            exact ⟨rfl, hB7⟩
          · have hne : ((balR s lead).2 == 0) = false := by simpa using he
            go_wp2_with fail
            go_ret
            exact ⟨rfl, hB7⟩
        · have HB5 := Lib.hid (h5 lead)
          clear h5
          rw [e4] at HBb
          go_wp2_with fail
          refine (HBb.out _ _ _ (hs.below hB7) hr7).mono ?_
          rintro e w8 ⟨rfl, hb8⟩
          have hr8 := hr7.below hb8
          have hB8 := hB7.trans (hb8.mono hB7.size)
          have HQ1 := Lib.hid (HQS.out w8 A5 c5 hr8)
          clear HQS HBb x0 x1 x2 x3 x4 x5 x6 x7
          generalize hbl : balR s lead = bl at *
          obtain ⟨bb, be⟩ := bl
          simp only at HB5 ⊢
          by_cases he : be = 0
          · subst he
            cases bb
            · go_wp2_with (go_at_call 34; refine (HQ1.out).mono ?_; rintro e w' ⟨rfl, rfl⟩)
              go_ret
              exact ⟨rfl, hB8⟩
            · obtain ⟨g1, g2, g3⟩ := HB5.out rfl rfl
              have HQ2 := Lib.hid (lsum_any A c lead w8 (hm.below hB8) (by omega) (fun x hx => by have := g3 x hx; omega))
              have hle : sumL LL ≤ sumF lead lead.length := g1
              go_wp2_with (first | (go_at_call 34; refine (HQ1.out).mono ?_; clear HQ1; rintro e w' ⟨rfl, rfl⟩) | (go_at_call 34; refine (HQ2.out).mono ?_; rintro e w' ⟨rfl, rfl⟩))
              go_ret
              exact ⟨rfl, hB8⟩
          · have hne : (be != 0) = true := by simpa using he
            go_wp2_with (go_at_call 34; refine (HQ1.out).mono ?_; rintro e w' ⟨rfl, rfl⟩)
            go_ret
            exact ⟨rfl, hB8⟩
      · have m1' : 40 < (lead.length : Int) := by omega
        go_wp2_with fail
        go_ret
        exact ⟨rfl, hB3⟩

end Go.Proofs.Ythmngnfdfelkeaa
