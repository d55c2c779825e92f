/-
  What is proved: the contract of awake.
-/
import Derived.Test.YtheifigkclegdaaTime
import Derived.Test.YtheifigkclegdaaSame
import Derived.Laws.StructEq
namespace Go.Proofs.Ytheifigkclegdaa
open Go.RowKit
attribute [local go_sem] Res.val

set_option maxRecDepth 100000 in
theorem eq42 (W : World) (a b c d : Int) : (binOp .eql 42 (.agg #[.int .i64 a, .int .i64 b]) (.agg #[.int .i64 c, .int .i64 d])).run Try.prog W = .ok (.bool (a == c && b == d)) W := by
  simp [go_sem, Try.underlying42]
  by_cases h1 : a = c <;> by_cases h2 : b = d <;> simp [*]
set_option maxRecDepth 100000 in
theorem eq38 (W : World) (a b c d : Int) : (binOp .eql 38 (.agg #[.int .i64 a, .int .i64 b]) (.agg #[.int .i64 c, .int .i64 d])).run Try.prog W = .ok (.bool (a == c && b == d)) W := by
  simp [go_sem, Try.underlying38]
  by_cases h1 : a = c <;> by_cases h2 : b = d <;> simp [*]

set_option maxRecDepth 100000 in
theorem field24 (W : World) (A : Option Addr) (n c : Nat) : (Instr.field 24 (.agg #[.slice A n c]) 0).run Try.prog W = .ok (.slice A n c) W := by
  simp [Instr.field, asAgg, go_sem]

theorem val_ok : okTrain trainL = true := by decide
theorem val_ratio : ratioR trainL = ⟨15, 4, 0⟩ := by decide
theorem val_meets : meetsR ⟨12, 8, 100⟩ 5 1 = (17, 0) := by
  have h : meetAt 24 12 8 1 5 = some 17 := by
    rw [← meetAt_next (by omega) (by omega) (by omega)]
    exact meetAt_hit (by omega) (by omega) (by omega)
  have h2 : meetsR ⟨12, 8, 100⟩ 5 1 = meetV (meetAt 24 12 8 1 5) := by
    unfold meetsR
    rw [if_pos (by decide), if_pos (by decide)]
    have e : gripsN ⟨12, 8, 100⟩ = 24 := by decide
    rw [e]
    rfl
  rw [h2, h]
  rfl
theorem val_asked : askedR trainL 9 = 0 := by decide
theorem val_shafts : shaftsOK trainL (trainL.length + 1) := by
  intro i hi
  have h3 : i < 3 := hi
  match i, h3 with
  | 0, _ => decide
  | 1, _ => decide
  | 2, _ => decide
theorem val_stands : standsCells trainL 9 2 = intCells [9, 1, 1, 3] := by rfl
theorem val_play : playGo trainL ⟨0, 1, 0⟩ = ⟨1, 32, 0⟩ := by decide
theorem val_where : whereR trainL 32 4 = ((39, 40), 0) := by decide
theorem val_rings : ringsR 3 10 4 2 = (2, 0) := by decide
theorem val_time : timeR trainL 10 4 2 2 = ⟨4, 15, 0⟩ := by decide
theorem val_period : periodR trainL = (48, 0) := by decide

set_option maxRecDepth 100000 in
set_option maxHeartbeats 8000000 in
theorem awake_any (w : World) : Calls Try.prog 16 #[] w fun e w' => e = .returned (.bool true) ∧ Below w.heap.size w w' := by
  have E42 := eq42
  have E38 := eq38
  have F24 := field24
  go_enter Try.func16, Try.ntmps16
  go_wp2_with fail
  refine (train_any _).mono ?_
  rintro e w1 ⟨g1, rfl, hr1, hb1⟩
  have hB1 : Below w.heap.size w w1 := hb1
  clear hb1
  go_wp2_with fail
  refine (ratioOf_any (some ⟨g1, 0, none⟩) 2 trainL _ hr1 (by decide)).mono ?_
  rintro e w2 ⟨rfl, hb2⟩
  have hB2 := hB1.trans (hb2.mono hB1.size)
  clear hb2 hB1 hr1
  rw [val_ratio]
  go_wp2_with fail
  refine (train_any _).mono ?_
  rintro e w3 ⟨g3, rfl, hr3, hb3⟩
  have R : Bk w3 w2.heap.size 42 #[.int .i64 15, .int .i64 4] := (bk_last rfl).keep hb3
  have hB3 : Below w.heap.size w w3 := (hB2.alloc hB2.size _).trans (hb3.mono (by have := hB2.size; simp; omega))
  clear hb3 hB2
  obtain ⟨b3, o3, h3e, h3b, h3c⟩ := hr3.mesh (by decide)
  injection h3e with h3e
  injection h3e with h3e1 h3e2
  subst h3e1 h3e2
  obtain ⟨m0, m1, m2⟩ := h3c 0 (by decide)
  simp [trainL] at m0 m1 m2
  clear h3c hr3
  go_wp2_with fail
  refine (meets_any _ _ _ _ _ _).mono ?_
  rintro e w4 ⟨rfl, hb4⟩
  replace R := R.keep hb4
  have hB4 := hB3.trans (hb4.mono hB3.size)
  clear hb4 hB3 m0 m1 m2
  rw [val_meets]
  unfold pairV
  go_wp2_with fail
  refine (train_any _).mono ?_
  rintro e w5 ⟨g5, rfl, hr5, hb5⟩
  replace R := R.keep hb5
  have hB5 := hB4.trans (hb5.mono hB4.size)
  clear hb5 hB4
  go_wp2_with fail
  refine (stands_any (some ⟨g5, 0, none⟩) 2 trainL 9 _ hr5 (by decide) (by decide)).mono ?_
  rintro e w6 ⟨hb6, ⟨h, _⟩ | ⟨_, h, _⟩ | ⟨_, _, v, rfl, hown⟩⟩
  · exact absurd val_asked h
  · exact absurd val_shafts h
  obtain ⟨g6, cap6, rfl, hg6, hl6⟩ := own_row hown (by decide)
  rw [show standsCells trainL (9 : Int).toNat trainL.length = intCells [9, 1, 1, 3] from val_stands] at hl6
  have hl6' : RowAt w6 (some ⟨g6, 0, none⟩) (intCells [9, 1, 1, 3]) := fun _ => ⟨g6, 0, rfl, hl6.1, hl6.2⟩
  clear hown hl6
  replace R := R.keep hb6
  have hB6 := hB5.trans (hb6.mono hB5.size)
  clear hb6 hB5 hr5
  go_wp2_with fail
  refine (train_any _).mono ?_
  rintro e w7 ⟨g7, rfl, hr7, hb7⟩
  replace R := R.keep hb7
  replace hl6' := hl6'.below hb7
  have hB7 := hB6.trans (hb7.mono hB6.size)
  clear hb7 hB6
  go_wp2_with fail
  refine (play_ok g7 0 2 trainL _ hr7 (by decide) (by decide) val_ok).mono ?_
  rintro e w8 ⟨rfl, hb8⟩
  replace R := R.keep hb8
  replace hl6' := hl6'.below hb8
  have hB8 := hB7.trans (hb8.mono hB7.size)
  clear hb8 hB7 hr7
  rw [val_play]
  go_wp2_with fail
  refine (train_any _).mono ?_
  rintro e w9 ⟨g9, rfl, hr9, hb9⟩
  have P : Bk w9 w8.heap.size 42 #[.int .i64 1, .int .i64 32] := (bk_last rfl).keep hb9
  replace R := (R.alloc _).keep hb9
  replace hl6' := (hl6'.alloc _).below hb9
  have hB9 : Below w.heap.size w w9 := (hB8.alloc hB8.size _).trans (hb9.mono (by have := hB8.size; simp; omega))
  clear hb9 hB8
  go_wp2_with fail
  refine (wheres_any (some ⟨g9, 0, none⟩) 2 trainL 32 4 _ hr9 (by decide) (by decide)).mono ?_
  rintro e w10 ⟨rfl, hb10⟩
  replace R := R.keep hb10
  replace P := P.keep hb10
  replace hl6' := hl6'.below hb10
  have hB10 := hB9.trans (hb10.mono hB9.size)
  clear hb10 hB9 hr9
  rw [val_where]
  unfold whereV
  go_wp2_with fail
  refine (rings_any _ _ _ _ _).mono ?_
  rintro e w11 ⟨rfl, hb11⟩
  have S : Bk w11 w10.heap.size 38 #[.int .i64 39, .int .i64 40] := (bk_last rfl).keep hb11
  replace R := (R.alloc _).keep hb11
  replace P := (P.alloc _).keep hb11
  replace hl6' := (hl6'.alloc _).below hb11
  have hB11 : Below w.heap.size w w11 := (hB10.alloc hB10.size _).trans (hb11.mono (by have := hB10.size; simp; omega))
  clear hb11 hB10
  rw [val_rings]
  unfold pairV
  go_wp2_with fail
  refine (train_any _).mono ?_
  rintro e w12 ⟨g12, rfl, hr12, hb12⟩
  replace R := R.keep hb12
  replace P := P.keep hb12
  replace S := S.keep hb12
  replace hl6' := hl6'.below hb12
  have hB12 := hB11.trans (hb12.mono hB11.size)
  clear hb12 hB11
  go_wp2_with fail
  refine (time_ok (some ⟨g12, 0, none⟩) 2 10 4 2 2 trainL _ _ hr12 (by decide) val_ok (by decide) (by omega) val_time).mono ?_
  rintro e w13 ⟨rfl, hb13⟩
  replace R := R.keep hb13
  replace P := P.keep hb13
  replace S := S.keep hb13
  replace hl6' := hl6'.below hb13
  have hB13 := hB12.trans (hb13.mono hB12.size)
  clear hb13 hB12 hr12
  go_wp2_with fail
  refine (train_any _).mono ?_
  rintro e w14 ⟨g14, rfl, hr14, hb14⟩
  have T : Bk w14 w13.heap.size 42 #[.int .i64 4, .int .i64 15] := (bk_last rfl).keep hb14
  replace R := (R.alloc _).keep hb14
  replace P := (P.alloc _).keep hb14
  replace S := (S.alloc _).keep hb14
  replace hl6' := (hl6'.alloc _).below hb14
  have hB14 : Below w.heap.size w w14 := (hB13.alloc hB13.size _).trans (hb14.mono (by have := hB13.size; simp; omega))
  clear hb14 hB13
  go_wp2_with fail
  refine (period_any (some ⟨g14, 0, none⟩) 2 trainL _ hr14 (by decide) (by decide)).mono ?_
  rintro e w15 ⟨rfl, hb15⟩
  replace R := R.keep hb15
  replace P := P.keep hb15
  replace S := S.keep hb15
  replace T := T.keep hb15
  replace hl6' := hl6'.below hb15
  have hB15 := hB14.trans (hb15.mono hB14.size)
  clear hb15 hB14 hr14
  rw [val_period]
  unfold pairV
  have r0 := R.cell 0
  have r1 := R.cell 1
  have p0 := P.cell 0
  have p1 := P.cell 1
  have s0 := S.cell 0
  have s1 := S.cell 1
  have t0 := T.cell 0
  have t1 := T.cell 1
  simp at r0 r1 p0 p1 s0 s1 t0 t1
  have rl := R.lt
  have pl := P.lt
  have sl := S.lt
  have tl := T.lt
  go_wp2_with fail
  have hq : RowAt (w15.alloc (Obj.cells #[Value.int IntKind.i64 9, Value.int IntKind.i64 1, Value.int IntKind.i64 1, Value.int IntKind.i64 3] 3)) (some ⟨w15.heap.size, 0, none⟩) (intCells [9, 1, 1, 3]) := by
    intro _
    refine ⟨_, _, rfl, by simp, fun j u hu => ?_⟩
    match j with
    | 0 => simp [intCells] at hu ⊢; exact hu
    | 1 => simp [intCells] at hu ⊢; exact hu
    | 2 => simp [intCells] at hu ⊢; exact hu
    | 3 => simp [intCells] at hu ⊢; exact hu
    | j + 4 => simp [intCells] at hu
  refine (sameInts_any (some ⟨g6, 0, none⟩) (some ⟨w15.heap.size, 0, none⟩) cap6 4 [9, 1, 1, 3] [9, 1, 1, 3] _ (hl6'.alloc _) hq (by decide) (by decide)).mono ?_
  rintro e w16 ⟨rfl, n16, rfl⟩
  simp only [decide_true]
  go_wp2_with fail
  go_ret
  exact ⟨rfl, below_drewN (hB15.alloc hB15.size _) _⟩

end Go.Proofs.Ytheifigkclegdaa
