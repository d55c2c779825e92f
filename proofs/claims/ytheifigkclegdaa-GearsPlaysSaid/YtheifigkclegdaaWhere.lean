/-
  What is proved: the contract of gears.Where.
-/
import Derived.Test.YtheifigkclegdaaRunner
namespace Go.Proofs.Ytheifigkclegdaa
open Go.RowKit

def whereR (L : List Mesh) (sec t : Int) : (Int × Int) × Int :=
  if askedR L t = 0 then
    if inB sec 2 96 then
      if runnerE L = 0 then (spanR (lastR L) (playGo L ⟨0, 1, 0⟩) sec.toNat t.toNat, 0) else ((0, 0), (runnerE L : Nat))
    else ((0, 0), 1)
  else ((0, 0), askedR L t)
def whereV (x : (Int × Int) × Int) : Value := .tuple #[.agg #[.int .i64 x.1.1, .int .i64 x.1.2], .int .i64 x.2]

theorem runner_bounds {L : List Mesh} (hok : okTrain L = true) (h : runnerE L = 0) :
    (lastR L).num ≤ 1000000000 ∧ 1 ≤ (lastR L).den ∧ (lastR L).den ≤ 1000000000 ∧ (playGo L ⟨0, 1, 0⟩).num ≤ 1000000000 ∧ 1 ≤ (playGo L ⟨0, 1, 0⟩).den ∧ (playGo L ⟨0, 1, 0⟩).den ≤ 1000000000 := by
  obtain ⟨k1, k2, k3⟩ := ok_train hok
  unfold runnerE at h
  split at h
  · rename_i hr
    have k4 : ∀ m ∈ L.take L.length, m.ok = true := fun m hm => k3 m (List.mem_of_mem_take hm)
    have hp : 1 ≤ pr (dns (L.take L.length)) := pr_pos _ fun x hx => by
      obtain ⟨m, hm, rfl⟩ := List.mem_map.1 hx
      have := ok_mesh (k4 m hm)
      omega
    have h2 := (drs_getD k3 0).1
    have hD : 1 ≤ pr (dns (L.take L.length)) * (drs L).getD 0 1 := Nat.mul_le_mul hp h2
    obtain ⟨_, _, g1, g2, g3⟩ := low_ok _ _ hD hr
    obtain ⟨h4, h5, h6⟩ := playGo_bounds L ⟨0, 1, 0⟩ ⟨by simp, by simp, by simp⟩ h
    exact ⟨g2, g1, g3, h4, h5, h6⟩
  · rename_i hr
    exact absurd h hr

set_option maxRecDepth 100000 in
set_option maxHeartbeats 4000000 in
theorem wheres_any (A : Option Addr) (c : Nat) (L : List Mesh) (sec t : Int) (w : World) (hL : RowAt w A (meshCells L)) (hc : L.length ≤ c) (hcm : c ≤ 9223372036854775807) :
    Calls Try.prog 23 #[.agg #[.slice A L.length c], .int .i64 sec, .int .i64 t] w fun e w' => e = .returned (whereV (whereR L sec t)) ∧ Below w.heap.size w w' := by
  have hV : Hid (∀ x, whereR L sec t = x → whereV (whereR L sec t) = .tuple #[.agg #[.int .i64 x.1.1, .int .i64 x.1.2], .int .i64 x.2]) := fun x hx => by rw [hx]; rfl
  have HL := Lib.hid hL
  have hLn : L.length ≤ 9223372036854775807 := by omega
  by_cases ha : askedR L t = 0
  · obtain ⟨hok, ht0, ht1⟩ := asked_ok ha
    obtain ⟨k1, _, _⟩ := ok_train hok
    obtain ⟨b, off, rfl, _⟩ := hL (by rw [meshCells_len]; omega)
    obtain ⟨t, rfl⟩ := Int.eq_ofNat_of_zero_le ht0
    have HA := Lib.hid (And.intro ha hok)
    clear hL ha hok
    by_cases hs : inB sec 2 96 = true
    · have hs' := hs
      simp only [inB, decide_eq_true_eq] at hs'
      obtain ⟨s, rfl⟩ := Int.eq_ofNat_of_zero_le (show 0 ≤ sec by omega)
      have HR : Hid (∀ W, RowAt W (some ⟨b, off, none⟩) (meshCells L) → Calls Try.prog 69 #[.agg #[.slice (some ⟨b, off, none⟩) L.length c], .int .i64 s] W (RunnerPost L s W)) := fun W hW => runner_any b off c s L W hW hc hcm HA.out.2
      go_enter Try.func23, Try.ntmps23
      go_wp2_with fail
      refine (asked_any _ _ _ _ _ ((HL.out.alloc _).alloc _) hLn).mono ?_
      rintro e w1 ⟨rfl, hb1⟩
      have T : Bk w1 w.heap.size 24 #[.slice (some ⟨b, off, none⟩) L.length c] := ((bk_last rfl).alloc _).keep hb1
      have E : Bk w1 (w.heap.size + 1) 38 #[.int .i64 0, .int .i64 0] := (bk_last (by simp)).keep hb1
      have hB1 : Below w.heap.size w w1 := (((Below.refl _ _).alloc (Nat.le_refl _) _).alloc (by simp) _).trans (hb1.mono (by simp; omega))
      clear hb1
      rw [HA.out.1]
      have t0 := T.cell 0
      simp at t0
      go_wp2_with (go_at_call 68; refine (within_any _ _ _ _).mono ?_; rintro e w' ⟨rfl, rfl⟩)
      refine (HR.out _ (HL.out.below hB1)).mono ?_
      rintro e w2 ⟨hb2, ⟨hne, rfl⟩ | ⟨he, g, rfl, hg, G⟩⟩
      · have E2 := E.keep hb2
        have hB2 := hB1.trans (hb2.mono hB1.size)
        clear hb2 E t0
        have hHE := Lib.hid (hV.out ((0, 0), (runnerE L : Nat)) (by unfold whereR; rw [if_pos HA.out.1, if_pos hs, if_neg hne]))
        generalize runnerE L = x at *
        have hx : ((x : Int) == 0) = false := by simp; omega
        have e0 := E2.cell 0
        have e1 := E2.cell 1
        have e2 := E2.fz 0
        have e3 := E2.fz 1
        simp at e0 e1
        go_wp2_with fail
        refine bodyPost_ret (v := .tuple #[.agg #[.int .i64 0, .int .i64 0], .int .i64 x]) (by simp [results, Try.results23, go_sem, e0, e1]) rfl ⟨by rw [hHE.out], (hB2.setCell (by simp) _).setCell (by simp) _⟩
      · have E2 := E.keep hb2
        have hB2 := hB1.trans (hb2.mono hB1.size)
        obtain ⟨n1, n2, n3, n4, n5, n6⟩ := runner_bounds HA.out.2 he
        clear hb2 E t0
        have hHE := Lib.hid (hV.out (spanR (lastR L) (playGo L ⟨0, 1, 0⟩) s t, 0) (by unfold whereR; rw [if_pos HA.out.1, if_pos hs, if_pos he]; simp))
        generalize lastR L = r at *
        generalize playGo L ⟨0, 1, 0⟩ = p at *
        have g0 := G.cell 0
        have g1 := G.cell 1
        have g2 := G.cell 2
        have g3 := G.cell 3
        have g4 := G.cell 4
        simp at g0 g1 g2 g3 g4
        go_wp2_with fail
        refine (where_any g t s r p _ g0 g1 g2 g3 g4 (by omega) (by omega) n1 n2 n3 n4 n5 n6).mono ?_
        rintro e w3 ⟨rfl, hb3⟩
        have E3 := E2.keep hb3
        have hB3 := hB2.trans (hb3.mono hB2.size)
        clear hb3 E2 g0 g1 g2 g3 g4
        have e0 := E3.cell 0
        have e1 := E3.cell 1
        have e2 := E3.fz 0
        have e3 := E3.fz 1
        simp at e0 e1
        go_wp2_with fail
        refine bodyPost_ret (v := .tuple #[.agg #[.int .i64 (spanR r p s t).1, .int .i64 (spanR r p s t).2], .int .i64 0]) (by simp [results, Try.results23, go_sem, e0, e1]) rfl ⟨by rw [hHE.out], (hB3.setCell (by simp) _).setCell (by simp) _⟩
    · have hHE := Lib.hid (hV.out ((0, 0), 1) (by unfold whereR; rw [if_pos HA.out.1, if_neg hs]))
      have hs' : inB sec 2 96 = false := by simpa using hs
      clear hs
      go_enter Try.func23, Try.ntmps23
      go_wp2_with fail
      refine (asked_any _ _ _ _ _ ((HL.out.alloc _).alloc _) hLn).mono ?_
      rintro e w1 ⟨rfl, hb1⟩
      have E : Bk w1 (w.heap.size + 1) 38 #[.int .i64 0, .int .i64 0] := (bk_last (by simp)).keep hb1
      have hB1 : Below w.heap.size w w1 := (((Below.refl _ _).alloc (Nat.le_refl _) _).alloc (by simp) _).trans (hb1.mono (by simp; omega))
      clear hb1
      rw [HA.out.1]
      have e0 := E.cell 0
      have e1 := E.cell 1
      have e2 := E.fz 0
      have e3 := E.fz 1
      simp at e0 e1
      go_wp2_with (go_at_call 68; refine (within_any _ _ _ _).mono ?_; rintro e w' ⟨rfl, rfl⟩)
      refine bodyPost_ret (v := .tuple #[.agg #[.int .i64 0, .int .i64 0], .int .i64 1]) (by simp [results, Try.results23, go_sem, e0, e1]) rfl ⟨by rw [hHE.out], (hB1.setCell (by simp) _).setCell (by simp) _⟩
  · have hHE := Lib.hid (hV.out ((0, 0), askedR L t) (by unfold whereR; rw [if_neg ha]))
    have HA := Lib.hid ha
    clear ha hL
    go_enter Try.func23, Try.ntmps23
    go_wp2_with fail
    refine (asked_any _ _ _ _ _ ((HL.out.alloc _).alloc _) hLn).mono ?_
    rintro e w1 ⟨rfl, hb1⟩
    have E : Bk w1 (w.heap.size + 1) 38 #[.int .i64 0, .int .i64 0] := (bk_last (by simp)).keep hb1
    have hB1 : Below w.heap.size w w1 := (((Below.refl _ _).alloc (Nat.le_refl _) _).alloc (by simp) _).trans (hb1.mono (by simp; omega))
    clear hb1
    have hne : ((askedR L t) == 0) = false := by simpa using HA.out
    have e0 := E.cell 0
    have e1 := E.cell 1
    have e2 := E.fz 0
    have e3 := E.fz 1
    simp at e0 e1
    go_wp2_with fail
    refine bodyPost_ret (v := .tuple #[.agg #[.int .i64 0, .int .i64 0], .int .i64 (askedR L t)]) (by simp [results, Try.results23, go_sem, e0, e1]) rfl ⟨by rw [hHE.out], (hB1.setCell (by simp) _).setCell (by simp) _⟩

end Go.Proofs.Ytheifigkclegdaa
