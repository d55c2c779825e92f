/-
  What is proved: TruthReds answers true.
-/
import Derived.Test.YthmngnfdfelkeaaAwake
import Derived.Test.YthmngnfdfelkeaaRRed
namespace Go.Proofs.Ythmngnfdfelkeaa
open Go.RowKit
attribute [local go_sem ↓] max_int min_int

theorem redR_len (hs cs : List Int) (tol : Int) : (redR hs cs tol).1.length ≤ cs.length := by
  unfold redR
  split <;> simp [redL]

set_option maxRecDepth 100000 in
set_option maxHeartbeats 8000000 in
theorem reds_law (A1 A2 : Option Addr) (c1 c2 : Nat) (hs cs : List Int) (tol : Int) (w : World) (h1 : RowAt w A1 (intCells hs)) (h2 : RowAt w A2 (intCells cs)) :
    Calls Try.prog 4 #[.slice A1 hs.length c1, .slice A2 cs.length c2, .int .i64 tol] w fun e w' => e = .returned (.bool true) ∧ Below w.heap.size w w' := by
  by_cases n1 : hs.length ≤ 1000
  · by_cases n2 : cs.length ≤ 1000
    · have n1I : (hs.length : Int) ≤ 1000 := by omega
      have n2I : (cs.length : Int) ≤ 1000 := by omega
      have hln := redR_len hs cs tol
      go_enter Try.func4, Try.ntmps4
      go_wp2_with (go_at_call 15; refine (awake_any _).mono ?_; rintro e w1 ⟨rfl, hb1⟩)
      refine (red_any A1 A2 c1 c2 hs cs tol _ (h1.below hb1) (h2.below hb1) (by omega) (by omega)).mono ?_
      rintro e w2 ⟨v, rfl, ho, hb2⟩
      have hB2 := hb1.trans (hb2.mono hb1.size)
      obtain ⟨A, c, rfl, _, hr, _⟩ := own_form ho
      clear ho hb2
      go_wp2_with fail
      refine (rred_any A1 A2 c1 c2 hs cs tol _ (h1.below hB2) (h2.below hB2) (by omega) (by omega)).mono ?_
      rintro e w3 ⟨v', rfl, ho', hb3⟩
      have hB3 := hB2.trans (hb3.mono hB2.size)
      obtain ⟨A', c', rfl, _, hr', _⟩ := own_form ho'
      have hr3 := hr.below hb3
      clear ho' hb3
      have hee : ((redR hs cs tol).2 == (redR hs cs tol).2) = true := by simp
      generalize (redR hs cs tol).1 = L at *
      generalize (redR hs cs tol).2 = E at *
      go_wp2_with fail
      refine (sameBools_any A A' c c' L L _ hr3 hr' (by omega) (by omega)).mono ?_
      rintro e w4 ⟨rfl, n, rfl⟩
      simp only [decide_true]
      go_wp2_with fail
      go_ret
      exact ⟨rfl, below_drewN hB3 _⟩
    · have n2I : (1000 : Int) < cs.length := by omega
      go_enter Try.func4, Try.ntmps4
      by_cases n1I : (hs.length : Int) ≤ 1000
      · go_wp2_with (go_at_call 15; refine (awake_any _).mono ?_; rintro e w1 ⟨rfl, hb1⟩)
        go_ret
        exact ⟨rfl, hb1⟩
      · go_wp2_with (go_at_call 15; refine (awake_any _).mono ?_; rintro e w1 ⟨rfl, hb1⟩)
        go_ret
        exact ⟨rfl, hb1⟩
  · have n1I : (1000 : Int) < hs.length := by omega
    go_enter Try.func4, Try.ntmps4
    go_wp2_with (go_at_call 15; refine (awake_any _).mono ?_; rintro e w1 ⟨rfl, hb1⟩)
    go_ret
    exact ⟨rfl, hb1⟩

end Go.Proofs.Ythmngnfdfelkeaa
