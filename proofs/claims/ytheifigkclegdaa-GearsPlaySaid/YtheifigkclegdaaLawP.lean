/-
  What is proved: the walk of GearsPlay.
-/
import Derived.Test.YtheifigkclegdaaShort
import Derived.Test.YtheifigkclegdaaPlayM
import Derived.Test.YtheifigkclegdaaBack
import Derived.Deep.DeepCutAuto
namespace Go.Proofs.Ytheifigkclegdaa
open Go.RowKit
attribute [local go_sem] Res.val whereV

theorem meshCells_all (L : List Mesh) : ∀ u ∈ meshCells L, u.oneCell' = true := by
  intro u hu
  obtain ⟨m, _, hm⟩ := List.mem_flatMap.1 hu
  simp at hm
  rcases hm with rfl | rfl | rfl <;> rfl

theorem meshCells_pl (L : List Mesh) (j : Nat) (hj : j < L.length) (x : Int) : (meshCells L).set (j * 3 + 2) (.int .i64 x) = meshCells (L.set j ⟨L[j].dr, L[j].dn, x⟩) := by
  induction L generalizing j with
  | nil => simp at hj
  | cons m L ih =>
    cases j with
    | zero => rfl
    | succ j =>
      have e : (j + 1) * 3 + 2 = (j * 3 + 2) + 3 := by omega
      have h := ih j (by simpa using hj)
      rw [e]
      simp only [meshCells, List.flatMap_cons, List.set_cons_succ, List.cons_append, List.nil_append, List.getElem_cons_succ] at h ⊢
      rw [h]

theorem own_cap {w : World} {base g cap : Nat} {e : TypeId} {size n : Nat} {xs : List Value} (h : w.ownsRow base e size (.slice (some ⟨g, 0, none⟩) n cap) n xs) : n ≤ cap ∧ cap ≤ maxLen ∧ base ≤ g := by
  rcases h.2 with ⟨h', _⟩ | ⟨g', cap', cur, h', hb, hg, hnc, hcm, _⟩
  · simp at h'
  · simp only [Value.slice.injEq, Option.some.injEq, Addr.mk.injEq, and_true, true_and] at h'
    obtain ⟨rfl, rfl⟩ := h'
    exact ⟨hnc, hcm, hb⟩

set_option maxRecDepth 100000 in
set_option maxHeartbeats 16000000 in
theorem play_out (A : Option Addr) (c : Nat) (L : List Mesh) (sec t mesh lo hi : Int) (pn pd : Nat) (w : World) (hrow : RowAt w A (meshCells L)) (hL1 : 1 ≤ L.length) (hL2 : L.length ≤ 16) (hlo : lo ≤ hi) (hz : pn = 0 → lo = hi)
    (hm : mesh < 0 ∨ (L.length : Int) ≤ mesh ∨ (∃ j, ∃ hj : j < L.length, mesh = (j : Nat) ∧ L[j].pl = 1000))
    (h1 : Hid (RetR A L 23 #[.agg #[.slice A L.length c], .int .i64 sec, .int .i64 t] (whereV ((lo, hi), 0)))) (h2 : Hid (RetR A L 24 #[.agg #[.slice A L.length c]] (⟨pn, pd, 0⟩ : Res).val)) :
    Calls Try.prog 5 #[.agg #[.slice A L.length c], .int .i64 sec, .int .i64 t, .int .i64 mesh] w fun e w' => e = .returned (.bool true) ∧ Below w.heap.size w w' := by
  have E38 := eq38
  go_enter Try.func5, Try.ntmps5
  go_wp2_with fail
  refine (awake_any _).mono ?_
  rintro e' w0 ⟨rfl, hb0⟩
  have X : Bk w0 w.heap.size 24 #[.slice A L.length c] := (bk_last rfl).keep hb0
  replace hrow := (hrow.alloc _).below hb0
  have hB0 : Below w.heap.size w w0 := ((Below.refl w.heap.size w).alloc (Nat.le_refl _) _).trans (hb0.mono (by simp <;> omega))
  clear hb0
  have Xc0 := X.cell 0
  simp at Xc0
  have Xl := X.lt
  go_wp2_with fail
  refine (short_true A L.length c _ (by omega)).mono ?_
  rintro e' w1 ⟨rfl, hb1⟩
  replace X := X.keep hb1
  replace hrow := hrow.below hb1
  have hB1 := hB0.trans (hb1.mono hB0.size)
  clear Xc0 Xl
  clear hb1 hB0
  have Xc0 := X.cell 0
  simp at Xc0
  have Xl := X.lt
  go_wp2_with fail
  refine (h1.out _ hrow).mono ?_
  rintro e' w2 ⟨rfl, hb2⟩
  replace X := X.keep hb2
  replace hrow := hrow.below hb2
  have hB2 := hB1.trans (hb2.mono hB1.size)
  clear Xc0 Xl
  clear hb2 hB1
  have Xc0 := X.cell 0
  simp at Xc0
  have Xl := X.lt
  unfold whereV
  go_wp2_with fail
  refine (h2.out _ (hrow.alloc _)).mono ?_
  rintro e' w3 ⟨rfl, hb3⟩
  have R1 : Bk w3 w2.heap.size 38 #[.int .i64 lo, .int .i64 hi] := (bk_last rfl).keep hb3
  replace X := (X.alloc _).keep hb3
  replace hrow := (hrow.alloc _).below hb3
  have hB3 : Below w.heap.size w w3 := (hB2.alloc hB2.size _).trans (hb3.mono (by have := hB2.size; simp; omega))
  clear Xc0 Xl
  clear hb3 hB2
  have Xc0 := X.cell 0
  simp at Xc0
  have Xl := X.lt
  have R1c0 := R1.cell 0
  have R1c1 := R1.cell 1
  simp at R1c0 R1c1
  have R1l := R1.lt
  have hl1 : ¬ (hi < lo) := by omega
  have hpz : (pn = 0 ∧ lo = hi) ∨ ((pn : Int) == 0) = false := by
    by_cases h : pn = 0
    · exact .inl ⟨h, hz h⟩
    · exact .inr (by simp; omega)
  clear hz
  rcases hpz with ⟨hp0, hp1⟩ | hp0
  · subst hp0 hp1
    rcases hm with hm | hm | ⟨j, hj, rfl, hpl⟩
    · have hm' : decide (mesh < 0) = true := by simpa using hm
      go_wp2_with fail
      go_ret
      exact ⟨rfl, hB3.alloc hB3.size _⟩
    · have hm0 : ¬ (mesh < 0) := by omega
      go_wp2_with fail
      go_ret
      exact ⟨rfl, hB3.alloc hB3.size _⟩
    · obtain ⟨b, off, hA, hbb, hcc⟩ := hrow.mesh (by omega)
      obtain ⟨_, _, m2⟩ := hcc j hj
      subst hA
      rw [hpl] at m2
      have hj0 : ¬ ((j : Int) < 0) := by omega
      have hj1 : (j : Int) < (L.length : Int) := by omega
      clear hcc
      go_wp2_with fail
      go_ret
      exact ⟨rfl, hB3.alloc hB3.size _⟩
  · rcases hm with hm | hm | ⟨j, hj, rfl, hpl⟩
    · have hm' : decide (mesh < 0) = true := by simpa using hm
      go_wp2_with fail
      go_ret
      exact ⟨rfl, hB3.alloc hB3.size _⟩
    · have hm0 : ¬ (mesh < 0) := by omega
      go_wp2_with fail
      go_ret
      exact ⟨rfl, hB3.alloc hB3.size _⟩
    · obtain ⟨b, off, hA, hbb, hcc⟩ := hrow.mesh (by omega)
      obtain ⟨_, _, m2⟩ := hcc j hj
      subst hA
      rw [hpl] at m2
      have hj0 : ¬ ((j : Int) < 0) := by omega
      have hj1 : (j : Int) < (L.length : Int) := by omega
      clear hcc
      go_wp2_with fail
      go_ret
      exact ⟨rfl, hB3.alloc hB3.size _⟩

set_option maxRecDepth 100000 in
set_option maxHeartbeats 16000000 in
theorem play_in (A : Option Addr) (c : Nat) (L : List Mesh) (sec t lo hi lo' hi' e' : Int) (j : Nat) (pn pd : Nat) (w : World) (hrow : RowAt w A (meshCells L)) (hL1 : 1 ≤ L.length) (hL2 : L.length ≤ 16) (hlo : lo ≤ hi) (hz : pn = 0 → lo = hi)
    (hj : j < L.length) (hpl0 : 0 ≤ L[j].pl) (hpl1 : L[j].pl < 1000) (hq : e' = 2 ∨ (e' = 0 ∧ lo' ≤ lo ∧ hi' = hi))
    (h1 : Hid (RetR A L 23 #[.agg #[.slice A L.length c], .int .i64 sec, .int .i64 t] (whereV ((lo, hi), 0)))) (h2 : Hid (RetR A L 24 #[.agg #[.slice A L.length c]] (⟨pn, pd, 0⟩ : Res).val))
    (h3 : Hid (∀ W g cap, L.length ≤ cap → cap ≤ 9223372036854775807 → RowAt W (some ⟨g, 0, none⟩) (meshCells (L.set j ⟨L[j].dr, L[j].dn, L[j].pl + 1⟩)) → Calls Try.prog 23 #[.agg #[.slice (some ⟨g, 0, none⟩) L.length cap], .int .i64 sec, .int .i64 t] W fun e w' => e = .returned (whereV ((lo', hi'), e')) ∧ Below W.heap.size W w')) :
    Calls Try.prog 5 #[.agg #[.slice A L.length c], .int .i64 sec, .int .i64 t, .int .i64 j] w fun e w' => e = .returned (.bool true) ∧ Below w.heap.size w w' := by
  have E38 := eq38
  obtain ⟨i0, hi0, hz0, hz1, hz2⟩ := info_parts meshInfo
  have HSET := Lib.hid (meshCells_pl L j hj (L[j].pl + 1))
  go_enter Try.func5, Try.ntmps5
  go_wp2_with fail
  refine (awake_any _).mono ?_
  rintro e' w0 ⟨rfl, hb0⟩
  have X : Bk w0 w.heap.size 24 #[.slice A L.length c] := (bk_last rfl).keep hb0
  replace hrow := (hrow.alloc _).below hb0
  have hB0 : Below w.heap.size w w0 := ((Below.refl w.heap.size w).alloc (Nat.le_refl _) _).trans (hb0.mono (by simp <;> omega))
  clear hb0
  have Xc0 := X.cell 0
  simp at Xc0
  have Xl := X.lt
  go_wp2_with fail
  refine (short_true A L.length c _ (by omega)).mono ?_
  rintro e' w1 ⟨rfl, hb1⟩
  replace X := X.keep hb1
  replace hrow := hrow.below hb1
  have hB1 := hB0.trans (hb1.mono hB0.size)
  clear Xc0 Xl
  clear hb1 hB0
  have Xc0 := X.cell 0
  simp at Xc0
  have Xl := X.lt
  go_wp2_with fail
  refine (h1.out _ hrow).mono ?_
  rintro e' w2 ⟨rfl, hb2⟩
  replace X := X.keep hb2
  replace hrow := hrow.below hb2
  have hB2 := hB1.trans (hb2.mono hB1.size)
  clear Xc0 Xl
  clear hb2 hB1
  have Xc0 := X.cell 0
  simp at Xc0
  have Xl := X.lt
  unfold whereV
  go_wp2_with fail
  refine (h2.out _ (hrow.alloc _)).mono ?_
  rintro e' w3 ⟨rfl, hb3⟩
  have R1 : Bk w3 w2.heap.size 38 #[.int .i64 lo, .int .i64 hi] := (bk_last rfl).keep hb3
  replace X := (X.alloc _).keep hb3
  replace hrow := (hrow.alloc _).below hb3
  have hB3 : Below w.heap.size w w3 := (hB2.alloc hB2.size _).trans (hb3.mono (by have := hB2.size; simp; omega))
  clear Xc0 Xl
  clear hb3 hB2
  have Xc0 := X.cell 0
  simp at Xc0
  have Xl := X.lt
  have R1c0 := R1.cell 0
  have R1c1 := R1.cell 1
  simp at R1c0 R1c1
  have R1l := R1.lt
  have hl1 : ¬ (hi < lo) := by omega
  have hpz : (pn = 0 ∧ lo = hi) ∨ ((pn : Int) == 0) = false := by
    by_cases h : pn = 0
    · exact .inl ⟨h, hz h⟩
    · exact .inr (by simp; omega)
  clear hz
  obtain ⟨b1, o1, hA, hbb, hcc⟩ := hrow.mesh (by omega)
  obtain ⟨_, _, m2⟩ := hcc j hj
  subst hA
  have hmc : (meshCells L)[j * 3 + 2]? = some (.int .i64 L[j].pl) := flat_get _ 3 (fun _ => rfl) (by omega) L j 2 hj (by omega)
  generalize L[j].pl = pl at *
  have hj0 : ¬ ((j : Int) < 0) := by omega
  have hj1 : (j : Int) < (L.length : Int) := by omega
  have hp3 : (pl == 1000) = false := by simp; omega
  have hp4 : pl + 1 ≤ 1000 := by omega
  have E1 : 0 + L.length ≤ maxLen := by unfold maxLen; omega
  have E2 : (0 + L.length) * 24 ≤ 140737488355328 := by omega
  clear hcc
  rcases hpz with ⟨hp0, hp1⟩ | hp0
  · subst hp0 hp1
    go_upto_region 12 with fail
    replace X := X.alloc (Obj.cells #[Value.int IntKind.i64 0, Value.int IntKind.i64 pd] 42)
    replace R1 := R1.alloc (Obj.cells #[Value.int IntKind.i64 0, Value.int IntKind.i64 pd] 42)
    replace hrow := hrow.alloc (Obj.cells #[Value.int IntKind.i64 0, Value.int IntKind.i64 pd] 42)
    have hB4 := hB3.alloc hB3.size (Obj.cells #[Value.int IntKind.i64 0, Value.int IntKind.i64 pd] 42)
    clear Xc0 Xl R1c0 R1c1 R1l hB3 m2 hbb
    generalize w3.alloc (Obj.cells #[Value.int IntKind.i64 0, Value.int IntKind.i64 pd] 42) = W at *
    have Xc0 := X.cell 0
    simp at Xc0
    have Xl := X.lt
    have hR1 : ∀ (i : Nat) (u : Value), (meshCells L)[i]? = some u → (W.alloc (Obj.cells #[] 36)).cell? ((⟨b1, o1, none⟩ : Addr).add i) = some u := fun i u hu => by
      obtain ⟨_, _, e, hlt, hc⟩ := hrow (by rw [meshCells_len]; omega)
      injection e with e
      injection e with e1 e2
      subst e1 e2
      rw [add_at]
      exact keepa (hc i u hu)
    go_upto_region 13 with (at_builtin; refine (wpList_append_own_at _ rfl _ _ 22 rfl W.heap.size 36 i0 _ 3 24 Try.underlying22 hi0 hz0 hz1 hz2 rfl (by decide) _ _ _ rfl (World.ownsRow_made W #[] 0 (Nat.le_refl _) (Nat.zero_le _) rfl) ⟨b1, o1, none⟩ L.length c (meshCells L) rfl (meshCells_len L) hR1 (meshCells_all L) E1 E2 (by simp) ?_); intro v' wq hown' hg _ _; rw [Nat.zero_add, List.nil_append] at hown'; obtain ⟨g2, cap2, rfl, hg2, _⟩ := own_row hown' (by omega))
    have hg' : (W.alloc (Obj.cells #[] 36)).grownBy wq (some W.heap.size) := hg
    clear hg hR1 Xc0 Xl
    have hcap := own_cap hown'
    have hR1W := R1.lt
    have hgl := (hown'.lt g2 rfl).2
    replace R1 : Bk wq w2.heap.size 38 _ := (R1.alloc _).grown hg' (by have := R1.lt; simp; omega)
    have hBW : Below W.heap.size W wq := ((Below.refl _ _).alloc (Nat.le_refl _) _).grown hg' (by simp) (fun i hi => by injection hi with hi; omega)
    have hB20 : Below w.heap.size w wq := hB4.trans (hBW.mono hB4.size)
    have hWz := hB4.size
    clear hg' hBW hB4 X hrow
    have O : Bk (wq.alloc (Obj.cells #[Value.slice (some ⟨g2, 0, none⟩) L.length cap2] 24)) wq.heap.size 24 #[.slice (some ⟨g2, 0, none⟩) L.length cap2] := bk_last rfl
    replace hown' := hown'.alloc (Obj.cells #[Value.slice (some ⟨g2, 0, none⟩) L.length cap2] 24)
    replace R1 := R1.alloc (Obj.cells #[Value.slice (some ⟨g2, 0, none⟩) L.length cap2] 24)
    have hB21 := hB20.alloc hB20.size (Obj.cells #[Value.slice (some ⟨g2, 0, none⟩) L.length cap2] 24)
    have hVz : (wq.alloc (Obj.cells #[Value.slice (some ⟨g2, 0, none⟩) L.length cap2] 24)).heap.size = wq.heap.size + 1 := by simp
    clear hB20
    generalize wq.alloc (Obj.cells #[Value.slice (some ⟨g2, 0, none⟩) L.length cap2] 24) = V at *
    have Oc0 := O.cell 0
    simp at Oc0
    have Ol := O.lt
    have q0 : V.cell? ⟨g2, j * 3 + 2, none⟩ = some (.int .i64 pl) := (hown'.cellAt (j * 3 + 2) (by omega)).trans hmc
    have q1 := hown'.frozenAt (j * 3 + 2)
    have hne : g2 ≠ wq.heap.size := by omega
    have hne2 : ¬ (wq.heap.size = g2) := by omega
    go_wp2_with fail
    have own3 := (hown'.stored (j * 3 + 2) (.int .i64 (pl + 1))).1
    rw [HSET.out] at own3
    obtain ⟨_, _, e5, _, hr, _⟩ := own_form own3
    injection e5 with e5 _ _
    subst e5
    refine (h3.out _ g2 cap2 hcap.1 (by have := hcap.2.1; unfold maxLen at this; omega) hr).mono ?_
    rintro e2 wz ⟨rfl, hbz⟩
    replace R1 := (R1.far (by simp; omega) _).keep hbz
    have hBz : Below w.heap.size w wz := (hB21.setCell (by simp; omega) _).trans (hbz.mono (by have := hB21.size; simp; omega))
    clear hbz own3 hr O Oc0 Ol q0 q1 hown' hB21
    have R1c0 := R1.cell 0
    have R1c1 := R1.cell 1
    simp at R1c0 R1c1
    have R1l := R1.lt
    unfold whereV
    rcases hq with hq | ⟨hq, hq2, hq3⟩
    · subst hq
      go_wp2_with fail
      go_ret
      exact ⟨rfl, hBz.alloc hBz.size _⟩
    · subst hq hq3
      go_wp2_with fail
      go_ret
      exact ⟨rfl, hBz.alloc hBz.size _⟩
  · go_upto_region 12 with fail
    replace X := X.alloc (Obj.cells #[Value.int IntKind.i64 ↑pn, Value.int IntKind.i64 pd] 42)
    replace R1 := R1.alloc (Obj.cells #[Value.int IntKind.i64 ↑pn, Value.int IntKind.i64 pd] 42)
    replace hrow := hrow.alloc (Obj.cells #[Value.int IntKind.i64 ↑pn, Value.int IntKind.i64 pd] 42)
    have hB4 := hB3.alloc hB3.size (Obj.cells #[Value.int IntKind.i64 ↑pn, Value.int IntKind.i64 pd] 42)
    clear Xc0 Xl R1c0 R1c1 R1l hB3 m2 hbb
    generalize w3.alloc (Obj.cells #[Value.int IntKind.i64 ↑pn, Value.int IntKind.i64 pd] 42) = W at *
    have Xc0 := X.cell 0
    simp at Xc0
    have Xl := X.lt
    have hR1 : ∀ (i : Nat) (u : Value), (meshCells L)[i]? = some u → (W.alloc (Obj.cells #[] 36)).cell? ((⟨b1, o1, none⟩ : Addr).add i) = some u := fun i u hu => by
      obtain ⟨_, _, e, hlt, hc⟩ := hrow (by rw [meshCells_len]; omega)
      injection e with e
      injection e with e1 e2
      subst e1 e2
      rw [add_at]
      exact keepa (hc i u hu)
    go_upto_region 13 with (at_builtin; refine (wpList_append_own_at _ rfl _ _ 22 rfl W.heap.size 36 i0 _ 3 24 Try.underlying22 hi0 hz0 hz1 hz2 rfl (by decide) _ _ _ rfl (World.ownsRow_made W #[] 0 (Nat.le_refl _) (Nat.zero_le _) rfl) ⟨b1, o1, none⟩ L.length c (meshCells L) rfl (meshCells_len L) hR1 (meshCells_all L) E1 E2 (by simp) ?_); intro v' wq hown' hg _ _; rw [Nat.zero_add, List.nil_append] at hown'; obtain ⟨g2, cap2, rfl, hg2, _⟩ := own_row hown' (by omega))
    have hg' : (W.alloc (Obj.cells #[] 36)).grownBy wq (some W.heap.size) := hg
    clear hg hR1 Xc0 Xl
    have hcap := own_cap hown'
    have hR1W := R1.lt
    have hgl := (hown'.lt g2 rfl).2
    replace R1 : Bk wq w2.heap.size 38 _ := (R1.alloc _).grown hg' (by have := R1.lt; simp; omega)
    have hBW : Below W.heap.size W wq := ((Below.refl _ _).alloc (Nat.le_refl _) _).grown hg' (by simp) (fun i hi => by injection hi with hi; omega)
    have hB20 : Below w.heap.size w wq := hB4.trans (hBW.mono hB4.size)
    have hWz := hB4.size
    clear hg' hBW hB4 X hrow
    have O : Bk (wq.alloc (Obj.cells #[Value.slice (some ⟨g2, 0, none⟩) L.length cap2] 24)) wq.heap.size 24 #[.slice (some ⟨g2, 0, none⟩) L.length cap2] := bk_last rfl
    replace hown' := hown'.alloc (Obj.cells #[Value.slice (some ⟨g2, 0, none⟩) L.length cap2] 24)
    replace R1 := R1.alloc (Obj.cells #[Value.slice (some ⟨g2, 0, none⟩) L.length cap2] 24)
    have hB21 := hB20.alloc hB20.size (Obj.cells #[Value.slice (some ⟨g2, 0, none⟩) L.length cap2] 24)
    have hVz : (wq.alloc (Obj.cells #[Value.slice (some ⟨g2, 0, none⟩) L.length cap2] 24)).heap.size = wq.heap.size + 1 := by simp
    clear hB20
    generalize wq.alloc (Obj.cells #[Value.slice (some ⟨g2, 0, none⟩) L.length cap2] 24) = V at *
    have Oc0 := O.cell 0
    simp at Oc0
    have Ol := O.lt
    have q0 : V.cell? ⟨g2, j * 3 + 2, none⟩ = some (.int .i64 pl) := (hown'.cellAt (j * 3 + 2) (by omega)).trans hmc
    have q1 := hown'.frozenAt (j * 3 + 2)
    have hne : g2 ≠ wq.heap.size := by omega
    have hne2 : ¬ (wq.heap.size = g2) := by omega
    go_wp2_with fail
    have own3 := (hown'.stored (j * 3 + 2) (.int .i64 (pl + 1))).1
    rw [HSET.out] at own3
    obtain ⟨_, _, e5, _, hr, _⟩ := own_form own3
    injection e5 with e5 _ _
    subst e5
    refine (h3.out _ g2 cap2 hcap.1 (by have := hcap.2.1; unfold maxLen at this; omega) hr).mono ?_
    rintro e2 wz ⟨rfl, hbz⟩
    replace R1 := (R1.far (by simp; omega) _).keep hbz
    have hBz : Below w.heap.size w wz := (hB21.setCell (by simp; omega) _).trans (hbz.mono (by have := hB21.size; simp; omega))
    clear hbz own3 hr O Oc0 Ol q0 q1 hown' hB21
    have R1c0 := R1.cell 0
    have R1c1 := R1.cell 1
    simp at R1c0 R1c1
    have R1l := R1.lt
    unfold whereV
    rcases hq with hq | ⟨hq, hq2, hq3⟩
    · subst hq
      go_wp2_with fail
      go_ret
      exact ⟨rfl, hBz.alloc hBz.size _⟩
    · subst hq hq3
      go_wp2_with fail
      go_ret
      exact ⟨rfl, hBz.alloc hBz.size _⟩

set_option maxRecDepth 100000 in
set_option maxHeartbeats 4000000 in
theorem play_stop (A : Option Addr) (c : Nat) (L : List Mesh) (sec t mesh e : Int) (w : World) (hrow : RowAt w A (meshCells L)) (hs : L.length ≤ 100) (he : e ≠ 0)
    (h1 : Hid (RetR A L 23 #[.agg #[.slice A L.length c], .int .i64 sec, .int .i64 t] (whereV ((0, 0), e)))) :
    Calls Try.prog 5 #[.agg #[.slice A L.length c], .int .i64 sec, .int .i64 t, .int .i64 mesh] w fun e w' => e = .returned (.bool true) ∧ Below w.heap.size w w' := by
  have E38 := eq38
  go_enter Try.func5, Try.ntmps5
  go_wp2_with fail
  refine (awake_any _).mono ?_
  rintro e' w0 ⟨rfl, hb0⟩
  have X : Bk w0 w.heap.size 24 #[.slice A L.length c] := (bk_last rfl).keep hb0
  replace hrow := (hrow.alloc _).below hb0
  have hB0 : Below w.heap.size w w0 := ((Below.refl w.heap.size w).alloc (Nat.le_refl _) _).trans (hb0.mono (by simp <;> omega))
  clear hb0
  have Xc0 := X.cell 0
  simp at Xc0
  have Xl := X.lt
  go_wp2_with fail
  refine (short_true A L.length c _ hs).mono ?_
  rintro e' w1 ⟨rfl, hb1⟩
  replace X := X.keep hb1
  replace hrow := hrow.below hb1
  have hB1 := hB0.trans (hb1.mono hB0.size)
  clear Xc0 Xl
  clear hb1 hB0
  have Xc0 := X.cell 0
  simp at Xc0
  have Xl := X.lt
  go_wp2_with fail
  refine (h1.out _ hrow).mono ?_
  rintro e' w2 ⟨rfl, hb2⟩
  replace X := X.keep hb2
  replace hrow := hrow.below hb2
  have hB2 := hB1.trans (hb2.mono hB1.size)
  clear Xc0 Xl
  clear hb2 hB1
  have he' : (e == 0) = false := by simpa using he
  unfold whereV
  go_wp2_with fail
  go_ret
  exact ⟨rfl, hB2.alloc hB2.size _⟩

theorem play_law (A : Option Addr) (c : Nat) (L : List Mesh) (sec t mesh : Int) (w : World) (hrow : RowAt w A (meshCells L)) (hc : L.length ≤ c) (hcm : c ≤ 9223372036854775807) :
    Calls Try.prog 5 #[.agg #[.slice A L.length c], .int .i64 sec, .int .i64 t, .int .i64 mesh] w fun e w' => e = .returned (.bool true) ∧ Below w.heap.size w w' := by
  by_cases hs : L.length ≤ 100
  · have h1 : RetR A L 23 #[.agg #[.slice A L.length c], .int .i64 sec, .int .i64 t] (whereV (whereR L sec t)) := fun W h => wheres_any A c L sec t W h hc hcm
    by_cases he : (whereR L sec t).2 = 0
    · obtain ⟨hok, hpe, hlo, hz, hmore⟩ := play_facts he
      obtain ⟨k1, k2, k3⟩ := ok_train hok
      obtain ⟨b, off, rfl, _⟩ := hrow (by rw [meshCells_len]; omega)
      have hP : playGo L ⟨0, 1, 0⟩ = ⟨(playGo L ⟨0, 1, 0⟩).num, (playGo L ⟨0, 1, 0⟩).den, 0⟩ := by
        generalize playGo L ⟨0, 1, 0⟩ = p at *
        obtain ⟨pn, pd, pe⟩ := p
        simp only at hpe
        subst hpe
        rfl
      have hW : whereR L sec t = (((whereR L sec t).1.1, (whereR L sec t).1.2), 0) := Prod.ext rfl he
      rw [hW] at h1
      have h2 : RetR (some ⟨b, off, none⟩) L 24 #[.agg #[.slice (some ⟨b, off, none⟩) L.length c]] (⟨(playGo L ⟨0, 1, 0⟩).num, (playGo L ⟨0, 1, 0⟩).den, 0⟩ : Res).val := fun W h => by
        rw [← hP]
        exact play_ok b off c L W h hc hcm hok
      by_cases hm : ∃ j, ∃ hj : j < L.length, mesh = (j : Nat) ∧ L[j].pl ≠ 1000
      · obtain ⟨j, hj, rfl, hne⟩ := hm
        have hmj := k3 L[j] (List.getElem_mem hj)
        have hb := ok_mesh hmj
        have hM := More.set hj (m' := ⟨L[j].dr, L[j].dn, L[j].pl + 1⟩) rfl rfl (show L[j].pl ≤ L[j].pl + 1 by omega)
        have hMo : ∀ m ∈ L.set j ⟨L[j].dr, L[j].dn, L[j].pl + 1⟩, m.ok = true := fun m h => by
          rcases List.mem_or_eq_of_mem_set h with h | rfl
          · exact k3 m h
          · simp only [Mesh.ok, inB, Bool.and_eq_true, decide_eq_true_eq] at hmj ⊢
            omega
        refine play_in (some ⟨b, off, none⟩) c L sec t _ _ _ _ _ j _ _ w hrow k1 k2 hlo hz hj (by omega) (by omega) (hmore _ hM hMo) h1 h2 (fun W g cap h6 h7 h8 => ?_)
        have h := wheres_any (some ⟨g, 0, none⟩) cap _ sec t W h8 (by rw [List.length_set]; exact h6) h7
        rw [List.length_set] at h
        exact h
      · refine play_out (some ⟨b, off, none⟩) c L sec t mesh _ _ _ _ w hrow k1 k2 hlo hz ?_ h1 h2
        by_cases h0 : mesh < 0
        · exact .inl h0
        · by_cases h9 : (L.length : Int) ≤ mesh
          · exact .inr (.inl h9)
          · refine .inr (.inr ⟨mesh.toNat, by omega, by omega, ?_⟩)
            refine Decidable.byContradiction fun hne => hm ⟨mesh.toNat, by omega, by omega, hne⟩
    · have hb := where_bad he
      have hW : whereR L sec t = ((0, 0), (whereR L sec t).2) := Prod.ext hb rfl
      rw [hW] at h1
      exact play_stop A c L sec t mesh _ w hrow hs he h1
  · go_enter Try.func5, Try.ntmps5
    go_wp2_with fail
    refine (awake_any _).mono ?_
    rintro e' w0 ⟨rfl, hb0⟩
    have X : Bk w0 w.heap.size 24 #[.slice A L.length c] := (bk_last rfl).keep hb0
    replace hrow := (hrow.alloc _).below hb0
    have hB0 : Below w.heap.size w w0 := ((Below.refl w.heap.size w).alloc (Nat.le_refl _) _).trans (hb0.mono (by simp <;> omega))
    clear hb0
    have Xc0 := X.cell 0
    simp at Xc0
    have Xl := X.lt
    go_wp2_with fail
    refine (short_false A L.length c _ hs).mono ?_
    rintro e' w1 ⟨rfl, hb1⟩
    replace X := X.keep hb1
    replace hrow := hrow.below hb1
    have hB1 := hB0.trans (hb1.mono hB0.size)
    clear Xc0 Xl
    clear hb1 hB0
    go_wp2
    go_ret
    exact ⟨rfl, hB1⟩

end Go.Proofs.Ytheifigkclegdaa
