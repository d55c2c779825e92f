/-
  What is proved: the contracts of the specification's runner and Where.
-/
import Derived.Test.YtheifigkclegdaaRSpan
import Derived.Test.YtheifigkclegdaaRStands
namespace Go.Proofs.Ytheifigkclegdaa
open Go.RowKit
attribute [local go_sem] Res.val

/-- What runner gives: the runner's turns, its play, an error. -/
def runnerR (L : List Mesh) (sec : Int) : (Int × Int) × (Int × Int) × Int :=
  if inB sec 2 96 then
    if runnerE L = 0 then (((lastR L).num, (lastR L).den), ((playGo L ⟨0, 1, 0⟩).num, (playGo L ⟨0, 1, 0⟩).den), 0) else ((0, 0), (0, 0), (runnerE L : Nat))
  else ((0, 0), (0, 0), 1)
def runnerV (x : (Int × Int) × (Int × Int) × Int) : Value := .tuple #[.agg #[.int .i64 x.1.1, .int .i64 x.1.2], .agg #[.int .i64 x.2.1.1, .int .i64 x.2.1.2], .int .i64 x.2.2]

set_option maxRecDepth 100000 in
set_option maxHeartbeats 4000000 in
theorem rrunner_any (b off c : Nat) (sec : Int) (L : List Mesh) (w : World) (hL : RowAt w (some ⟨b, off, none⟩) (meshCells L)) (hn : L.length ≤ 9223372036854775807) (hok : okTrain L = true) :
    Calls Try.prog 84 #[.agg #[.slice (some ⟨b, off, none⟩) L.length c], .int .i64 sec] w fun e w' => e = .returned (runnerV (runnerR L sec)) ∧ Below w.heap.size w w' := by
  have HL := Lib.hid hL
  by_cases hs : inB sec 2 96 = true
  · have HS : Hid (∀ W, RowAt W (some ⟨b, off, none⟩) (meshCells L) → Calls Try.prog 64 #[.agg #[.slice (some ⟨b, off, none⟩) L.length c], .int .i64 L.length] W fun e w' => e = .returned (lastR L).val ∧ Below W.heap.size W w') :=
      fun W hW => turns_any b off c L.length L W hW hok (Nat.le_refl _)
    have HP : Hid (∀ W, RowAt W (some ⟨b, off, none⟩) (meshCells L) → Calls Try.prog 44 #[.agg #[.slice (some ⟨b, off, none⟩) L.length c]] W fun e w' => e = .returned (playGo L ⟨0, 1, 0⟩).val ∧ Below W.heap.size W w') :=
      fun W hW => rplay_ok b off c L W hW hn hok
    have HV : Hid (∀ r p : Res, lastR L = r → playGo L ⟨0, 1, 0⟩ = p → runnerR L sec = if r.err = 0 then if p.err = 0 then (((r.num : Int), (r.den : Int)), ((p.num : Int), (p.den : Int)), (0 : Int)) else ((0, 0), (0, 0), ((p.err : Nat) : Int)) else ((0, 0), (0, 0), ((r.err : Nat) : Int))) := by
      rintro r p rfl rfl
      unfold runnerR runnerE
      rw [if_pos hs]
      by_cases h : (lastR L).err = 0 <;> by_cases h2 : (playGo L ⟨0, 1, 0⟩).err = 0 <;> simp [h, h2]
    clear hL hok
    have HV := Lib.hid (HV.out _ _ rfl rfl)
    generalize runnerR L sec = x at *
    generalize lastR L = r at *
    generalize playGo L ⟨0, 1, 0⟩ = p at *
    obtain ⟨rn, rd, re⟩ := r
    obtain ⟨pn, pd, pe⟩ := p
    simp only at HV
    go_enter Try.func84, Try.ntmps84
    go_wp2_with (go_at_call 78; refine (rwithin_any _ _ _ _).mono ?_; rintro e w' ⟨rfl, rfl⟩)
    clear hs
    refine (HS.out _ (((HL.out.alloc _).alloc _).alloc _)).mono ?_
    rintro e w1 ⟨rfl, hb1⟩
    have X : Bk w1 w.heap.size 24 #[.slice (some ⟨b, off, none⟩) L.length c] := (((bk_last rfl).alloc _).alloc _).keep hb1
    have E1 : Bk w1 (w.heap.size + 1) 42 #[.int .i64 0, .int .i64 0] := ((bk_last (by simp)).alloc _).keep hb1
    have E2 : Bk w1 (w.heap.size + 1 + 1) 42 #[.int .i64 0, .int .i64 0] := (bk_last (by simp)).keep hb1
    have hB1 : Below w.heap.size w w1 := ((((Below.refl _ _).alloc (Nat.le_refl _) _).alloc (by simp) _).alloc (by simp; omega) _).trans (hb1.mono (by simp; omega))
    clear hb1
    by_cases hr : re = 0
    · subst hr
      have Xc0 := X.cell 0
      simp at Xc0
      have Xl := X.lt
      go_wp2_with fail
      refine (HP.out _ ((HL.out.below hB1).alloc _)).mono ?_
      rintro e w2 ⟨rfl, hb2⟩
      have R : Bk w2 w1.heap.size 42 #[.int .i64 rn, .int .i64 rd] := (bk_last rfl).keep hb2
      replace X := (X.alloc _).keep hb2
      replace E1 := (E1.alloc _).keep hb2
      replace E2 := (E2.alloc _).keep hb2
      have hB2 : Below w.heap.size w w2 := (hB1.alloc hB1.size _).trans (hb2.mono (by simp; have := hB1.size; omega))
      have hz1 := hB1.size
      clear hb2 Xc0 X
      have a1 := E1.cell 0
      have a2 := E1.cell 1
      have a3 := E1.fz 0
      have a4 := E1.fz 1
      have a5 := E2.cell 0
      have a6 := E2.cell 1
      have a7 := E2.fz 0
      have a8 := E2.fz 1
      have r1 := R.cell 0
      have r2 := R.cell 1
      simp at a1 a2 a5 a6 r1 r2
      have E1l := E1.lt
      have E2l := E2.lt
      have Rl := R.lt
      by_cases hp : pe = 0
      · subst hp
        have hV := HV.out
        simp only [if_true] at hV
        subst hV
        go_upto_region 9 with fail
        go_region
        all_goals go_wp2_with fail
        all_goals refine bodyPost_ret (v := runnerV ((rn, rd), (pn, pd), 0)) (by simp [runnerV, results, Try.results84, go_sem, a1, a2, a5, a6, E1l, E2l]) rfl ⟨rfl, ?_⟩
        all_goals repeat (first | exact hB2 | refine Below.setCell ?_ (by simp <;> omega) _ | refine Below.alloc ?_ (by simp <;> omega) _ | refine below_drewN ?_ _)
      · have hV := HV.out
        simp only [if_true, if_neg hp] at hV
        subst hV
        have hp1 : ((pe : Int) == 0) = false := by simp; omega
        go_wp2_with fail
        refine bodyPost_ret (v := runnerV ((0, 0), (0, 0), (pe : Nat))) (by simp [runnerV, results, Try.results84, go_sem, a1, a2, a5, a6, E1l, E2l]) rfl ⟨rfl, ?_⟩
        repeat (first | exact hB2 | refine Below.setCell ?_ (by simp <;> omega) _ | refine Below.alloc ?_ (by simp <;> omega) _ | refine below_drewN ?_ _)
    · have hV := HV.out
      rw [if_neg hr] at hV
      subst hV
      have hr1 : ((re : Int) == 0) = false := by simp; omega
      have a1 := E1.cell 0
      have a2 := E1.cell 1
      have a3 := E1.fz 0
      have a4 := E1.fz 1
      have a5 := E2.cell 0
      have a6 := E2.cell 1
      have a7 := E2.fz 0
      have a8 := E2.fz 1
      simp at a1 a2 a5 a6
      have E1l := E1.lt
      have E2l := E2.lt
      go_wp2_with fail
      refine bodyPost_ret (v := runnerV ((0, 0), (0, 0), (re : Nat))) (by simp [runnerV, results, Try.results84, go_sem, a1, a2, a5, a6, E1l, E2l]) rfl ⟨rfl, ?_⟩
      repeat (first | exact hB1 | refine Below.setCell ?_ (by simp <;> omega) _ | refine Below.alloc ?_ (by simp <;> omega) _ | refine below_drewN ?_ _)
  · have hs' : inB sec 2 96 = false := by simpa using hs
    rw [runnerR, if_neg hs]
    go_enter Try.func84, Try.ntmps84
    go_wp2_with (go_at_call 78; refine (rwithin_any _ _ _ _).mono ?_; rintro e w' ⟨rfl, rfl⟩)
    refine bodyPost_ret (v := runnerV ((0, 0), (0, 0), 1)) (by simp [runnerV, results, Try.results84, go_sem]) rfl ⟨rfl, ?_⟩
    repeat (first | exact Below.refl _ _ | refine Below.setCell ?_ (by simp <;> omega) _ | refine Below.alloc ?_ (by simp <;> omega) _ | refine below_drewN ?_ _)

set_option maxRecDepth 100000 in
set_option maxHeartbeats 4000000 in
theorem rwhere_any (A : Option Addr) (c : Nat) (L : List Mesh) (sec t : Int) (w : World) (hL : RowAt w A (meshCells L)) (hn : L.length ≤ 9223372036854775807) :
    Calls Try.prog 45 #[.agg #[.slice A L.length c], .int .i64 sec, .int .i64 t] w fun e w' => e = .returned (whereV (whereR L sec t)) ∧ Below w.heap.size w w' := by
  have HL := Lib.hid hL
  by_cases ha : askedR L t = 0
  · obtain ⟨hok, ht0, ht1⟩ := asked_ok ha
    obtain ⟨k1, _, _⟩ := ok_train hok
    obtain ⟨b, off, rfl, _⟩ := hL (by rw [meshCells_len]; omega)
    obtain ⟨t, rfl⟩ := Int.eq_ofNat_of_zero_le ht0
    have hA := Lib.hid ha
    have HR : Hid (∀ W, RowAt W (some ⟨b, off, none⟩) (meshCells L) → Calls Try.prog 84 #[.agg #[.slice (some ⟨b, off, none⟩) L.length c], .int .i64 sec] W fun e w' => e = .returned (runnerV (runnerR L sec)) ∧ Below W.heap.size W w') := fun W hW => rrunner_any b off c sec L W hW hn hok
    have HW : Hid (((runnerR L sec).2.2 = 0 → inB sec 2 96 = true ∧ runnerE L = 0) ∧ ((runnerR L sec).2.2 ≠ 0 → whereR L sec t = ((0, 0), (runnerR L sec).2.2))) := by
      unfold Hid whereR runnerR
      rw [if_pos ha]
      by_cases h1 : inB sec 2 96 = true <;> by_cases h2 : runnerE L = 0 <;> simp [h1, h2]
    by_cases hr : (runnerR L sec).2.2 = 0
    · obtain ⟨h1, h2⟩ := HW.out.1 hr
      have hs' := h1
      simp only [inB, decide_eq_true_eq] at hs'
      obtain ⟨s, rfl⟩ := Int.eq_ofNat_of_zero_le (show 0 ≤ sec by omega)
      obtain ⟨n1, n2, n3, n4, n5, n6⟩ := runner_bounds hok h2
      have e1 : whereR L s t = (spanR (lastR L) (playGo L ⟨0, 1, 0⟩) s t, 0) := by
        unfold whereR
        rw [if_pos ha, if_pos h1, if_pos h2]
        simp
      have e2 : runnerR L s = ((((lastR L).num : Int), ((lastR L).den : Int)), (((playGo L ⟨0, 1, 0⟩).num : Int), ((playGo L ⟨0, 1, 0⟩).den : Int)), (0 : Int)) := by
        unfold runnerR
        rw [if_pos h1, if_pos h2]
      have a1 : t * (lastR L).num ≤ 1000000000000000 := Nat.le_trans (Nat.mul_le_mul (show t ≤ 1000000 by omega) n1) (by omega)
      have HT : Hid (∀ W, Calls Try.prog 85 #[.agg #[.int .i64 (lastR L).num, .int .i64 (lastR L).den], .agg #[.int .i64 (playGo L ⟨0, 1, 0⟩).num, .int .i64 (playGo L ⟨0, 1, 0⟩).den], .int .i64 s, .int .i64 t] W fun e w' => e = .returned (.agg #[.int .i64 (spanR (lastR L) (playGo L ⟨0, 1, 0⟩) s t).1, .int .i64 (spanR (lastR L) (playGo L ⟨0, 1, 0⟩) s t).2]) ∧ Below W.heap.size W w') :=
        fun W => rspan_any t s _ _ W (by omega) a1 (by omega) n1 n2 n3 n4 n5 n6
      rw [e1]
      rw [e2] at HR
      clear hL ha hok HW hr h1 h2 hs' n1 n2 n3 n4 n5 n6 e1 e2 a1
      generalize spanR (lastR L) (playGo L ⟨0, 1, 0⟩) s t = sp at *
      generalize lastR L = r at *
      generalize playGo L ⟨0, 1, 0⟩ = p at *
      obtain ⟨rn, rd, re⟩ := r
      obtain ⟨pn, pd, pe⟩ := p
      obtain ⟨lo, hi⟩ := sp
      simp only [runnerV] at HR HT ⊢
      go_enter Try.func45, Try.ntmps45
      go_wp2_with fail
      refine (rasked_any _ _ _ _ _ ((HL.out.alloc _).alloc _) hn).mono ?_
      rintro e w1 ⟨rfl, hb1⟩
      have X : Bk w1 w.heap.size 24 #[.slice (some ⟨b, off, none⟩) L.length c] := ((bk_last rfl).alloc _).keep hb1
      have E : Bk w1 (w.heap.size + 1) 38 #[.int .i64 0, .int .i64 0] := (bk_last (by simp)).keep hb1
      have hB1 : Below w.heap.size w w1 := (((Below.refl _ _).alloc (Nat.le_refl _) _).alloc (by simp) _).trans (hb1.mono (by simp; omega))
      clear hb1
      rw [hA.out]
      have t0 := X.cell 0
      simp at t0
      go_wp2_with fail
      refine (HR.out _ (HL.out.below hB1)).mono ?_
      rintro e w2 ⟨rfl, hb2⟩
      replace E := E.keep hb2
      have hB2 := hB1.trans (hb2.mono hB1.size)
      have hz2 := hB2.size
      clear hb2 X t0
      go_wp2_with fail
      refine (HT.out _).mono ?_
      rintro e w3 ⟨rfl, hb3⟩
      replace E := ((E.alloc _).alloc _).keep hb3
      have hB3 := ((hB2.alloc hB2.size _).alloc (by simp; omega) _).trans (hb3.mono (by simp; omega))
      clear hb3
      have e0 := E.cell 0
      have e1 := E.cell 1
      have e2 := E.fz 0
      have e3 := E.fz 1
      simp at e0 e1
      go_wp2_with fail
      refine bodyPost_ret (v := whereV ((lo, hi), 0)) (by simp [whereV, results, Try.results45, go_sem, e0, e1]) rfl ⟨rfl, (hB3.setCell (by simp) _).setCell (by simp) _⟩
    · have e1 := HW.out.2 hr
      rw [e1]
      clear hL ha hok HW e1
      generalize runnerR L sec = x at *
      obtain ⟨⟨rn, rd⟩, ⟨pn, pd⟩, x⟩ := x
      simp only [runnerV] at HR hr ⊢
      go_enter Try.func45, Try.ntmps45
      go_wp2_with fail
      refine (rasked_any _ _ _ _ _ ((HL.out.alloc _).alloc _) hn).mono ?_
      rintro e w1 ⟨rfl, hb1⟩
      have X : Bk w1 w.heap.size 24 #[.slice (some ⟨b, off, none⟩) L.length c] := ((bk_last rfl).alloc _).keep hb1
      have E : Bk w1 (w.heap.size + 1) 38 #[.int .i64 0, .int .i64 0] := (bk_last (by simp)).keep hb1
      have hB1 : Below w.heap.size w w1 := (((Below.refl _ _).alloc (Nat.le_refl _) _).alloc (by simp) _).trans (hb1.mono (by simp; omega))
      clear hb1
      rw [hA.out]
      have t0 := X.cell 0
      simp at t0
      go_wp2_with fail
      refine (HR.out _ (HL.out.below hB1)).mono ?_
      rintro e w2 ⟨rfl, hb2⟩
      replace E := E.keep hb2
      have hB2 := hB1.trans (hb2.mono hB1.size)
      have hz2 := hB2.size
      clear hb2 X t0
      have hx : (x == 0) = false := by simpa using hr
      have e0 := E.cell 0
      have e1 := E.cell 1
      have e2 := E.fz 0
      have e3 := E.fz 1
      simp at e0 e1
      have El := E.lt
      have El2 : w.heap.size < w2.heap.size := by omega
      go_wp2_with fail
      refine bodyPost_ret (v := whereV ((0, 0), x)) (by simp [whereV, results, Try.results45, go_sem, e0, e1, El, El2]) rfl ⟨rfl, ?_⟩
      repeat (first | exact hB2 | refine Below.setCell ?_ (by simp <;> omega) _ | refine Below.alloc ?_ (by simp <;> omega) _ | refine below_drewN ?_ _)
  · have e1 : whereR L sec t = ((0, 0), askedR L t) := by
      unfold whereR
      rw [if_neg ha]
    rw [e1]
    have hx : (askedR L t == 0) = false := by simpa using ha
    clear e1
    have HA : Hid (∀ W, RowAt W A (meshCells L) → Calls Try.prog 63 #[.agg #[.slice A L.length c], .int .i64 t] W fun e w' => e = .returned (.int .i64 (askedR L t)) ∧ Below W.heap.size W w') := fun W hW => rasked_any _ _ _ _ _ hW hn
    clear hL
    generalize askedR L t = x at *
    go_enter Try.func45, Try.ntmps45
    go_wp2_with fail
    refine (HA.out _ ((HL.out.alloc _).alloc _)).mono ?_
    rintro e w1 ⟨rfl, hb1⟩
    have E : Bk w1 (w.heap.size + 1) 38 #[.int .i64 0, .int .i64 0] := (bk_last (by simp)).keep hb1
    have hB1 : Below w.heap.size w w1 := (((Below.refl _ _).alloc (Nat.le_refl _) _).alloc (by simp) _).trans (hb1.mono (by simp; omega))
    clear hb1
    have e0 := E.cell 0
    have e1 := E.cell 1
    have e2 := E.fz 0
    have e3 := E.fz 1
    simp at e0 e1
    go_wp2_with fail
    refine bodyPost_ret (v := whereV ((0, 0), x)) (by simp [whereV, results, Try.results45, go_sem, e0, e1]) rfl ⟨rfl, (hB1.setCell (by simp) _).setCell (by simp) _⟩

end Go.Proofs.Ytheifigkclegdaa
