/-
  What is proved: the walk of GearsTimes.
-/
import Derived.Test.YtheifigkclegdaaShort
import Derived.Test.YtheifigkclegdaaTimes
namespace Go.Proofs.Ytheifigkclegdaa
open Go.RowKit
attribute [local go_sem] Res.val

set_option maxRecDepth 100000 in
set_option maxHeartbeats 16000000 in
theorem times_core (A : Option Addr) (c : Nat) (L : List Mesh) (h d k b t m : Int) (r q : Res) (ri : Int × Int) (w : World) (hrow : RowAt w A (meshCells L)) (hs : L.length ≤ 100)
    (h1 : Hid (RetR A L 38 #[.agg #[.slice A L.length c], .int .i64 t, .int .i64 m] r.val)) (h2 : Hid (RetR A L 39 #[.agg #[.slice A L.length c], .int .i64 t, .int .i64 m] r.val))
    (h3 : Hid (Ret 40 #[.agg #[.int .i64 b], .agg #[.int .i64 h, .int .i64 d, .int .i64 k]] (pairV ri))) (h4 : Hid (Ret 41 #[.agg #[.int .i64 b], .agg #[.int .i64 h, .int .i64 d, .int .i64 k]] (pairV ri)))
    (h5 : Hid (RetR A L 42 #[.agg #[.slice A L.length c], .agg #[.int .i64 h, .int .i64 d, .int .i64 k], .int .i64 t] q.val)) (h6 : Hid (RetR A L 43 #[.agg #[.slice A L.length c], .agg #[.int .i64 h, .int .i64 d, .int .i64 k], .int .i64 t] q.val)) :
    Calls Try.prog 10 #[.agg #[.slice A L.length c], .agg #[.int .i64 h, .int .i64 d, .int .i64 k], .agg #[.int .i64 b], .int .i64 t, .int .i64 m] w fun e w' => e = .returned (.bool true) ∧ Below w.heap.size w w' := by
  have E42 := eq42
  obtain ⟨rn, rd, re⟩ := r
  obtain ⟨qn, qd, qe⟩ := q
  obtain ⟨r1, r2⟩ := ri
  go_enter Try.func10, Try.ntmps10
  go_wp2_with fail
  refine (awake_any _).mono ?_
  rintro e' w0 ⟨rfl, hb0⟩
  have X : Bk w0 w.heap.size 24 #[.slice A L.length c] := (((bk_last rfl).alloc _).alloc _).keep hb0
  have F : Bk w0 (w.heap.size + 1) 57 #[.int .i64 h, .int .i64 d, .int .i64 k] := ((bk_last (by simp)).alloc _).keep hb0
  have B : Bk w0 (w.heap.size + 1 + 1) 59 #[.int .i64 b] := (bk_last (by simp)).keep hb0
  replace hrow := (((hrow.alloc _).alloc _).alloc _).below hb0
  have hB0 : Below w.heap.size w w0 := ((((Below.refl w.heap.size w).alloc (Nat.le_refl _) _).alloc (by simp <;> omega) _).alloc (by simp <;> omega) _).trans (hb0.mono (by simp <;> omega))
  clear hb0
  have Xc0 := X.cell 0
  simp at Xc0
  have Xl := X.lt
  go_wp2_with fail
  refine (short_true A L.length c _ hs).mono ?_
  rintro e' w1 ⟨rfl, hb1⟩
  replace X := X.keep hb1
  replace F := F.keep hb1
  replace B := B.keep hb1
  replace hrow := hrow.below hb1
  have hB1 := hB0.trans (hb1.mono hB0.size)
  clear Xc0 Xl
  clear hb1 hB0
  have Xc0 := X.cell 0
  simp at Xc0
  have Xl := X.lt
  go_wp2_with fail
  refine (h1.out _ hrow).mono ?_
  rintro e' w2 ⟨rfl, hb2⟩
  replace X := X.keep hb2
  replace F := F.keep hb2
  replace B := B.keep hb2
  replace hrow := hrow.below hb2
  have hB2 := hB1.trans (hb2.mono hB1.size)
  clear Xc0 Xl
  clear hb2 hB1
  have Xc0 := X.cell 0
  simp at Xc0
  have Xl := X.lt
  go_wp2_with fail
  refine (h2.out _ (hrow.alloc _)).mono ?_
  rintro e' w3 ⟨rfl, hb3⟩
  have R1 : Bk w3 w2.heap.size 42 #[.int .i64 rn, .int .i64 rd] := (bk_last rfl).keep hb3
  replace X := (X.alloc _).keep hb3
  replace F := (F.alloc _).keep hb3
  replace B := (B.alloc _).keep hb3
  replace hrow := (hrow.alloc _).below hb3
  have hB3 : Below w.heap.size w w3 := (hB2.alloc hB2.size _).trans (hb3.mono (by have := hB2.size; simp; omega))
  clear Xc0 Xl
  clear hb3 hB2
  have Bc0 := B.cell 0
  simp at Bc0
  have Bl := B.lt
  have Fc0 := F.cell 0
  have Fc1 := F.cell 1
  have Fc2 := F.cell 2
  simp at Fc0 Fc1 Fc2
  have Fl := F.lt
  go_wp2_with fail
  refine (h3.out _).mono ?_
  rintro e' w4 ⟨rfl, hb4⟩
  have R2 : Bk w4 w3.heap.size 42 #[.int .i64 rn, .int .i64 rd] := (bk_last rfl).keep hb4
  replace X := (X.alloc _).keep hb4
  replace F := (F.alloc _).keep hb4
  replace B := (B.alloc _).keep hb4
  replace R1 := (R1.alloc _).keep hb4
  replace hrow := (hrow.alloc _).below hb4
  have hB4 : Below w.heap.size w w4 := (hB3.alloc hB3.size _).trans (hb4.mono (by have := hB3.size; simp; omega))
  clear Bc0 Bl Fc0 Fc1 Fc2 Fl
  clear hb4 hB3
  have Bc0 := B.cell 0
  simp at Bc0
  have Bl := B.lt
  have Fc0 := F.cell 0
  have Fc1 := F.cell 1
  have Fc2 := F.cell 2
  simp at Fc0 Fc1 Fc2
  have Fl := F.lt
  unfold pairV
  go_wp2_with fail
  refine (h4.out _).mono ?_
  rintro e' w5 ⟨rfl, hb5⟩
  replace X := X.keep hb5
  replace F := F.keep hb5
  replace B := B.keep hb5
  replace R1 := R1.keep hb5
  replace R2 := R2.keep hb5
  replace hrow := hrow.below hb5
  have hB5 := hB4.trans (hb5.mono hB4.size)
  clear Bc0 Bl Fc0 Fc1 Fc2 Fl
  clear hb5 hB4
  have Xc0 := X.cell 0
  simp at Xc0
  have Xl := X.lt
  have Fc0 := F.cell 0
  have Fc1 := F.cell 1
  have Fc2 := F.cell 2
  simp at Fc0 Fc1 Fc2
  have Fl := F.lt
  unfold pairV
  go_wp2_with fail
  refine (h5.out _ hrow).mono ?_
  rintro e' w6 ⟨rfl, hb6⟩
  replace X := X.keep hb6
  replace F := F.keep hb6
  replace B := B.keep hb6
  replace R1 := R1.keep hb6
  replace R2 := R2.keep hb6
  replace hrow := hrow.below hb6
  have hB6 := hB5.trans (hb6.mono hB5.size)
  clear Xc0 Xl Fc0 Fc1 Fc2 Fl
  clear hb6 hB5
  have Xc0 := X.cell 0
  simp at Xc0
  have Xl := X.lt
  have Fc0 := F.cell 0
  have Fc1 := F.cell 1
  have Fc2 := F.cell 2
  simp at Fc0 Fc1 Fc2
  have Fl := F.lt
  go_wp2_with fail
  refine (h6.out _ (hrow.alloc _)).mono ?_
  rintro e' w7 ⟨rfl, hb7⟩
  have R3 : Bk w7 w6.heap.size 42 #[.int .i64 qn, .int .i64 qd] := (bk_last rfl).keep hb7
  replace X := (X.alloc _).keep hb7
  replace F := (F.alloc _).keep hb7
  replace B := (B.alloc _).keep hb7
  replace R1 := (R1.alloc _).keep hb7
  replace R2 := (R2.alloc _).keep hb7
  replace hrow := (hrow.alloc _).below hb7
  have hB7 : Below w.heap.size w w7 := (hB6.alloc hB6.size _).trans (hb7.mono (by have := hB6.size; simp; omega))
  clear Xc0 Xl Fc0 Fc1 Fc2 Fl
  clear hb7 hB6
  have R1c0 := R1.cell 0
  have R1c1 := R1.cell 1
  simp at R1c0 R1c1
  have R1l := R1.lt
  have R2c0 := R2.cell 0
  have R2c1 := R2.cell 1
  simp at R2c0 R2c1
  have R2l := R2.lt
  have R3c0 := R3.cell 0
  have R3c1 := R3.cell 1
  simp at R3c0 R3c1
  have R3l := R3.lt
  go_wp2_with fail
  go_ret
  exact ⟨rfl, hB7.alloc hB7.size _⟩

theorem times_law (A : Option Addr) (c : Nat) (L : List Mesh) (h d k b t m : Int) (w : World) (hrow : RowAt w A (meshCells L)) (_hc : L.length ≤ c) (_hcm : c ≤ 9223372036854775807) :
    Calls Try.prog 10 #[.agg #[.slice A L.length c], .agg #[.int .i64 h, .int .i64 d, .int .i64 k], .agg #[.int .i64 b], .int .i64 t, .int .i64 m] w fun e w' => e = .returned (.bool true) ∧ Below w.heap.size w w' := by
  by_cases hs : L.length ≤ 100
  · exact times_core A c L h d k b t m (runsR L t m) (timeR L h d k t) (ringsR b h d k) w hrow hs
      (fun W hW => runs_any A c L t m W hW (by omega)) (fun W hW => rruns_any A c L t m W hW (by omega)) (fun W => rings_any b h d k W) (fun W => rrings_any b h d k W)
      (fun W hW => time_any A c h d k t L W hW (by omega)) (fun W hW => rtime_any A c h d k t L W hW (by omega))
  · go_enter Try.func10, Try.ntmps10
    go_wp2_with fail
    refine (awake_any _).mono ?_
    rintro e' w0 ⟨rfl, hb0⟩
    have X : Bk w0 w.heap.size 24 #[.slice A L.length c] := (((bk_last rfl).alloc _).alloc _).keep hb0
    have F : Bk w0 (w.heap.size + 1) 57 #[.int .i64 h, .int .i64 d, .int .i64 k] := ((bk_last (by simp)).alloc _).keep hb0
    have B : Bk w0 (w.heap.size + 1 + 1) 59 #[.int .i64 b] := (bk_last (by simp)).keep hb0
    replace hrow := (((hrow.alloc _).alloc _).alloc _).below hb0
    have hB0 : Below w.heap.size w w0 := ((((Below.refl w.heap.size w).alloc (Nat.le_refl _) _).alloc (by simp <;> omega) _).alloc (by simp <;> omega) _).trans (hb0.mono (by simp <;> omega))
    clear hb0
    have Xc0 := X.cell 0
    simp at Xc0
    have Xl := X.lt
    go_wp2_with fail
    refine (short_false A L.length c _ hs).mono ?_
    rintro e' w1 ⟨rfl, hb1⟩
    replace X := X.keep hb1
    replace F := F.keep hb1
    replace B := B.keep hb1
    replace hrow := hrow.below hb1
    have hB1 := hB0.trans (hb1.mono hB0.size)
    clear Xc0 Xl
    clear hb1 hB0
    go_wp2
    go_ret
    exact ⟨rfl, hB1⟩

end Go.Proofs.Ytheifigkclegdaa
