/-
  What is proved: the contract of gears.All in all cases, and of the law's has.
-/
import Derived.Test.YtheifigkclegdaaAll
import Derived.Test.YtheifigkclegdaaSame
namespace Go.Proofs.Ytheifigkclegdaa
open Go.RowKit
attribute [local go_sem] Res.val

/-- What All gives. -/
def AllPost (L : List Mesh) (sec : Int) (w : World) (e : Ending) (w' : World) : Prop :=
  ∃ v, e = .returned (.tuple #[v, .int .i64 (allR L sec).2]) ∧ w'.ownsRow w.heap.size 3 1 v (allR L sec).1.length (intCells (allR L sec).1) ∧ Below w.heap.size w w'

set_option maxRecDepth 100000 in
set_option maxHeartbeats 4000000 in
theorem all_any (A : Option Addr) (c : Nat) (L : List Mesh) (sec : Int) (w : World) (hL : RowAt w A (meshCells L)) (hc : L.length ≤ c) (hcm : c ≤ 9223372036854775807) :
    Calls Try.prog 46 #[.agg #[.slice A L.length c], .int .i64 sec] w (AllPost L sec w) := by
  have hLn : L.length ≤ 9223372036854775807 := by omega
  by_cases hok : okTrain L = true
  · obtain ⟨k1, k2, k3⟩ := ok_train hok
    obtain ⟨b, off, rfl, _⟩ := hL (by rw [meshCells_len]; omega)
    have hA0 : askedR L 0 = 0 := by rw [askedR, if_pos hok, if_pos (by decide)]
    have HA : Hid (∀ W, RowAt W (some ⟨b, off, none⟩) (meshCells L) → Calls Try.prog 60 #[.agg #[.slice (some ⟨b, off, none⟩) L.length c], .int .i64 0] W fun e w' => e = .returned (.int .i64 0) ∧ Below W.heap.size W w') := fun W hW => by
      have h := asked_any (some ⟨b, off, none⟩) c L 0 W hW hLn
      rwa [hA0] at h
    by_cases hs : inB sec 2 96 = true
    · have hs' := hs
      simp only [inB, decide_eq_true_eq] at hs'
      obtain ⟨s, rfl⟩ := Int.eq_ofNat_of_zero_le (show 0 ≤ sec by omega)
      by_cases hr : runnerE L = 0
      · have hb := runner_bounds hok hr
        have hR : allR L s = (filtI (allB (lastR L).den (playGo L ⟨0, 1, 0⟩) s) s, 0) := by
          rw [allR, if_pos hok, if_pos hs, if_pos hr]
          simp [filtI]
        unfold AllPost
        rw [hR]
        refine all_core b off c s L (lastR L).num (lastR L).den (playGo L ⟨0, 1, 0⟩) w hL hLn (by omega) (by omega) hb.2.1 hb.2.2.1 hb.2.2.2.1 hb.2.2.2.2.1 hb.2.2.2.2.2 HA (fun W hW => ?_)
        refine (runner_any b off c s L W hW hc hcm hok).mono fun e w' h => ?_
        obtain ⟨h1, ⟨h2, _⟩ | ⟨_, g, h3, h4, h5⟩⟩ := h
        · exact absurd hr h2
        · exact ⟨h1, g, h3, h4, h5⟩
      · have hR : allR L s = ([], ((runnerE L : Nat) : Int)) := by rw [allR, if_pos hok, if_pos hs, if_neg hr]
        have HR : Hid (∀ W, RowAt W (some ⟨b, off, none⟩) (meshCells L) → Calls Try.prog 69 #[.agg #[.slice (some ⟨b, off, none⟩) L.length c], .int .i64 s] W fun e w' => e = .returned (.tuple #[.pointer none, .int .i64 (runnerE L : Nat)]) ∧ Below W.heap.size W w') := fun W hW => by
          refine (runner_any b off c s L W hW hc hcm hok).mono fun e w' h => ?_
          obtain ⟨h1, ⟨_, h3⟩ | ⟨h2, _⟩⟩ := h
          · exact ⟨h3, h1⟩
          · exact absurd h2 hr
        unfold AllPost
        rw [hR]
        clear hR
        generalize runnerE L = x at *
        have hx : ((x : Int) == 0) = false := by simp; omega
        go_enter Try.func46, Try.ntmps46
        go_wp2_with fail
        refine (HA.out _ (hL.alloc _)).mono ?_
        rintro e w1 ⟨rfl, hb1⟩
        have X : Bk w1 w.heap.size 24 #[.slice (some ⟨b, off, none⟩) L.length c] := (bk_last rfl).keep hb1
        have hB1 : Below w.heap.size w w1 := ((Below.refl _ _).alloc (Nat.le_refl _) _).trans (hb1.mono (by simp))
        clear hb1
        have Xc0 := X.cell 0
        simp at Xc0
        go_wp2_with (go_at_call 68; refine (within_any _ _ _ _).mono ?_; rintro e w' ⟨rfl, rfl⟩)
        refine (HR.out _ (hL.below hB1)).mono ?_
        rintro e w2 ⟨rfl, hb2⟩
        have hB2 := hB1.trans (hb2.mono hB1.size)
        clear hb2 hB1 X Xc0
        go_wp2_with fail
        go_ret2
        exact ⟨_, rfl, World.ownsRow_nil _ _ _ _, hB2⟩
    · have hR : allR L sec = ([], 1) := by rw [allR, if_pos hok, if_neg hs]
      have hs' : inB sec 2 96 = false := by simpa using hs
      unfold AllPost
      rw [hR]
      clear hR
      go_enter Try.func46, Try.ntmps46
      go_wp2_with fail
      refine (HA.out _ (hL.alloc _)).mono ?_
      rintro e w1 ⟨rfl, hb1⟩
      have hB1 : Below w.heap.size w w1 := ((Below.refl _ _).alloc (Nat.le_refl _) _).trans (hb1.mono (by simp))
      clear hb1
      go_wp2_with (go_at_call 68; refine (within_any _ _ _ _).mono ?_; rintro e w' ⟨rfl, rfl⟩)
      go_ret2
      exact ⟨_, rfl, World.ownsRow_nil _ _ _ _, hB1⟩
  · have hR : allR L sec = ([], 70) := by rw [allR, if_neg hok]
    have hA0 : askedR L 0 = 70 := by rw [askedR, if_neg hok]
    have HA := Lib.hid hA0
    unfold AllPost
    rw [hR]
    clear hR hok hA0
    go_enter Try.func46, Try.ntmps46
    go_wp2_with fail
    refine (asked_any _ _ _ _ _ (hL.alloc _) hLn).mono ?_
    rintro e w1 ⟨rfl, hb1⟩
    have hB1 : Below w.heap.size w w1 := ((Below.refl _ _).alloc (Nat.le_refl _) _).trans (hb1.mono (by simp))
    clear hb1
    rw [HA.out]
    go_wp2_with fail
    go_ret2
    exact ⟨_, rfl, World.ownsRow_nil _ _ _ _, hB1⟩

set_option maxHeartbeats 1000000 in
theorem has_any (A : Option Addr) (c : Nat) (xs : List Int) (n : Int) (w : World) (hx : RowAt w A (intCells xs)) (hn : xs.length ≤ 9223372036854775807) :
    Calls Try.prog 48 #[.slice A xs.length c, .int .i64 n] w fun e w' => e = .returned (.bool (decide (n ∈ xs))) ∧ w' = w := by
  generalize hr : decide (n ∈ xs) = r
  have HR := Lib.hid hr
  clear hr
  go_enter Try.func48, Try.ntmps48
  go_wp2
  go_loop [5] (fun i => ∃ k : Nat, k ≤ xs.length ∧ i = .int .i64 k ∧ Hid (∀ j (h : j < xs.length), j < k → xs[j] ≠ n)) (fun i => xs.length - (intOf i).toNat)
  case atStart => exact ⟨0, Nat.zero_le _, rfl, fun j _ h => absurd h (by omega)⟩
  case round =>
    obtain ⟨k, hk, rfl, hall⟩ := hrel
    by_cases hlt : k < xs.length
    · obtain ⟨b, off, hA, hb, hc⟩ := hx.int (by omega)
      have c0 := hc k hlt
      have hkI : (k : Int) < xs.length := by omega
      clear hc
      rw [hA]
      clear hA
      by_cases he : xs[k] = n
      · have hE := HR.out
        have hin : n ∈ xs := by rw [← he]; exact List.getElem_mem hlt
        rw [decide_eq_true hin] at hE
        subst hE
        clear HR
        rw [he] at c0
        go_wp2
        go_ret
        exact ⟨rfl, rfl⟩
      · have hall' : Hid (∀ j (h : j < xs.length), j < k + 1 → xs[j] ≠ n) := fun j h hj => by
          rcases Nat.lt_or_ge j k with h' | h'
          · exact hall.out j h h'
          · have : j = k := by omega
            subst this
            exact he
        have he' : (xs[k] == n) = false := by simpa using he
        go_wp2
        go_round
        case rel => exact ⟨k + 1, by omega, by go_num, hall'⟩
        case measure => simp [intOf]; omega
    · have : k = xs.length := by omega
      subst this
      have hE := HR.out
      have hnin : ¬ n ∈ xs := fun h => by
        obtain ⟨j, hj, he⟩ := List.getElem_of_mem h
        exact hall.out j hj hj he
      rw [decide_eq_false hnin] at hE
      subst hE
      go_wp2
      go_ret
      exact ⟨rfl, rfl⟩

end Go.Proofs.Ytheifigkclegdaa
