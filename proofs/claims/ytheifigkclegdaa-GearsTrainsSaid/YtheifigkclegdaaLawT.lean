/-
  What is proved: the walk of GearsTrains.
-/
import Derived.Test.YtheifigkclegdaaShort
import Derived.Test.YtheifigkclegdaaRTeeth
namespace Go.Proofs.Ytheifigkclegdaa
open Go.RowKit
attribute [local go_sem] Res.val

set_option maxRecDepth 100000 in
set_option maxHeartbeats 16000000 in
theorem trains_core (A : Option Addr) (c : Nat) (L : List Mesh) (x y z t k : Int) (r : Res) (hu : Bool × Int) (gr me : Int × Int) (v : Bool) (w : World) (hrow : RowAt w A (meshCells L)) (hs : L.length ≤ 100)
    (h1 : Hid (RetR A L 25 #[.agg #[.slice A L.length c]] r.val)) (h2 : Hid (RetR A L 26 #[.agg #[.slice A L.length c]] r.val))
    (h3 : Hid (Ret 27 #[.agg #[.int .i64 x, .int .i64 y, .int .i64 z]] (.tuple #[.bool hu.1, .int .i64 hu.2]))) (h4 : Hid (Ret 28 #[.agg #[.int .i64 x, .int .i64 y, .int .i64 z]] (.tuple #[.bool hu.1, .int .i64 hu.2])))
    (h5 : Hid (Ret 29 #[.agg #[.int .i64 x, .int .i64 y, .int .i64 z]] (pairV gr))) (h6 : Hid (Ret 30 #[.agg #[.int .i64 x, .int .i64 y, .int .i64 z]] (pairV gr)))
    (h7 : Hid (Ret 31 #[.agg #[.int .i64 x, .int .i64 y, .int .i64 z], .int .i64 t, .int .i64 k] (pairV me))) (h8 : Hid (Ret 32 #[.agg #[.int .i64 x, .int .i64 y, .int .i64 z], .int .i64 t, .int .i64 k] (pairV me)))
    (h9 : Hid (RetR A L 33 #[.agg #[.slice A L.length c]] (.bool v))) (h10 : Hid (RetR A L 34 #[.agg #[.slice A L.length c]] (.bool v))) :
    Calls Try.prog 6 #[.agg #[.slice A L.length c], .agg #[.int .i64 x, .int .i64 y, .int .i64 z], .int .i64 t, .int .i64 k] w fun e w' => e = .returned (.bool true) ∧ Below w.heap.size w w' := by
  have E42 := eq42
  obtain ⟨rn, rd, re⟩ := r
  obtain ⟨hu1, hu2⟩ := hu
  obtain ⟨g1, g2⟩ := gr
  obtain ⟨m1, m2⟩ := me
  go_enter Try.func6, Try.ntmps6
  go_wp2_with fail
  refine (awake_any _).mono ?_
  rintro e' w0 ⟨rfl, hb0⟩
  have X : Bk w0 w.heap.size 24 #[.slice A L.length c] := ((bk_last rfl).alloc _).keep hb0
  have M : Bk w0 (w.heap.size + 1) 36 #[.int .i64 x, .int .i64 y, .int .i64 z] := (bk_last (by simp)).keep hb0
  replace hrow := ((hrow.alloc _).alloc _).below hb0
  have hB0 : Below w.heap.size w w0 := (((Below.refl w.heap.size w).alloc (Nat.le_refl _) _).alloc (by simp <;> omega) _).trans (hb0.mono (by simp <;> omega))
  clear hb0
  have Xc0 := X.cell 0
  simp at Xc0
  have Xl := X.lt
  go_wp2_with fail
  refine (short_true A L.length c _ hs).mono ?_
  rintro e' w1 ⟨rfl, hb1⟩
  replace X := X.keep hb1
  replace M := M.keep hb1
  replace hrow := hrow.below hb1
  have hB1 := hB0.trans (hb1.mono hB0.size)
  clear Xc0 Xl
  clear hb1 hB0
  have Xc0 := X.cell 0
  simp at Xc0
  have Xl := X.lt
  go_wp2_with fail
  refine (h1.out _ (by first | exact hrow | exact hrow.alloc _)).mono ?_
  rintro e' w2 ⟨rfl, hb2⟩
  replace X := X.keep hb2
  replace M := M.keep hb2
  replace hrow := hrow.below hb2
  have hB2 := hB1.trans (hb2.mono hB1.size)
  clear Xc0 Xl
  clear hb2 hB1
  have Xc0 := X.cell 0
  simp at Xc0
  have Xl := X.lt
  go_wp2_with fail
  refine (h2.out _ (hrow.alloc _)).mono ?_
  rintro e' w3 ⟨rfl, hb3⟩
  have R1 : Bk w3 w2.heap.size 42 #[.int .i64 rn, .int .i64 rd] := (bk_last rfl).keep hb3
  replace X := (X.alloc _).keep hb3
  replace M := (M.alloc _).keep hb3
  replace hrow := (hrow.alloc _).below hb3
  have hB3 : Below w.heap.size w w3 := (hB2.alloc hB2.size _).trans (hb3.mono (by have := hB2.size; simp; omega))
  clear Xc0 Xl
  clear hb3 hB2
  have Mc0 := M.cell 0
  have Mc1 := M.cell 1
  have Mc2 := M.cell 2
  simp at Mc0 Mc1 Mc2
  have Ml := M.lt
  go_wp2_with fail
  refine (h3.out _).mono ?_
  rintro e' w4 ⟨rfl, hb4⟩
  have R2 : Bk w4 w3.heap.size 42 #[.int .i64 rn, .int .i64 rd] := (bk_last rfl).keep hb4
  replace X := (X.alloc _).keep hb4
  replace M := (M.alloc _).keep hb4
  replace R1 := (R1.alloc _).keep hb4
  replace hrow := (hrow.alloc _).below hb4
  have hB4 : Below w.heap.size w w4 := (hB3.alloc hB3.size _).trans (hb4.mono (by have := hB3.size; simp; omega))
  clear Mc0 Mc1 Mc2 Ml
  clear hb4 hB3
  have Mc0 := M.cell 0
  have Mc1 := M.cell 1
  have Mc2 := M.cell 2
  simp at Mc0 Mc1 Mc2
  have Ml := M.lt
  go_wp2_with fail
  refine (h4.out _).mono ?_
  rintro e' w5 ⟨rfl, hb5⟩
  replace X := X.keep hb5
  replace M := M.keep hb5
  replace R1 := R1.keep hb5
  replace R2 := R2.keep hb5
  replace hrow := hrow.below hb5
  have hB5 := hB4.trans (hb5.mono hB4.size)
  clear Mc0 Mc1 Mc2 Ml
  clear hb5 hB4
  have Mc0 := M.cell 0
  have Mc1 := M.cell 1
  have Mc2 := M.cell 2
  simp at Mc0 Mc1 Mc2
  have Ml := M.lt
  go_wp2_with fail
  refine (h5.out _).mono ?_
  rintro e' w6 ⟨rfl, hb6⟩
  replace X := X.keep hb6
  replace M := M.keep hb6
  replace R1 := R1.keep hb6
  replace R2 := R2.keep hb6
  replace hrow := hrow.below hb6
  have hB6 := hB5.trans (hb6.mono hB5.size)
  clear Mc0 Mc1 Mc2 Ml
  clear hb6 hB5
  have Mc0 := M.cell 0
  have Mc1 := M.cell 1
  have Mc2 := M.cell 2
  simp at Mc0 Mc1 Mc2
  have Ml := M.lt
  unfold pairV
  go_wp2_with fail
  refine (h6.out _).mono ?_
  rintro e' w7 ⟨rfl, hb7⟩
  replace X := X.keep hb7
  replace M := M.keep hb7
  replace R1 := R1.keep hb7
  replace R2 := R2.keep hb7
  replace hrow := hrow.below hb7
  have hB7 := hB6.trans (hb7.mono hB6.size)
  clear Mc0 Mc1 Mc2 Ml
  clear hb7 hB6
  have Mc0 := M.cell 0
  have Mc1 := M.cell 1
  have Mc2 := M.cell 2
  simp at Mc0 Mc1 Mc2
  have Ml := M.lt
  unfold pairV
  go_wp2_with fail
  refine (h7.out _).mono ?_
  rintro e' w8 ⟨rfl, hb8⟩
  replace X := X.keep hb8
  replace M := M.keep hb8
  replace R1 := R1.keep hb8
  replace R2 := R2.keep hb8
  replace hrow := hrow.below hb8
  have hB8 := hB7.trans (hb8.mono hB7.size)
  clear Mc0 Mc1 Mc2 Ml
  clear hb8 hB7
  have Mc0 := M.cell 0
  have Mc1 := M.cell 1
  have Mc2 := M.cell 2
  simp at Mc0 Mc1 Mc2
  have Ml := M.lt
  unfold pairV
  go_wp2_with fail
  refine (h8.out _).mono ?_
  rintro e' w9 ⟨rfl, hb9⟩
  replace X := X.keep hb9
  replace M := M.keep hb9
  replace R1 := R1.keep hb9
  replace R2 := R2.keep hb9
  replace hrow := hrow.below hb9
  have hB9 := hB8.trans (hb9.mono hB8.size)
  clear Mc0 Mc1 Mc2 Ml
  clear hb9 hB8
  have Xc0 := X.cell 0
  simp at Xc0
  have Xl := X.lt
  have R1c0 := R1.cell 0
  have R1c1 := R1.cell 1
  simp at R1c0 R1c1
  have R1l := R1.lt
  have R2c0 := R2.cell 0
  have R2c1 := R2.cell 1
  simp at R2c0 R2c1
  have R2l := R2.lt
  unfold pairV
  go_wp2_with fail
  refine wp_region_ext (by kernel_rfl) (by kernel_rfl) ?_
  have F1 := fun x : Ext w9 => keepc x.bel Xc0
  have F2 := fun x : Ext w9 => keepc x.bel R1c0
  have F3 := fun x : Ext w9 => keepc x.bel R1c1
  have F4 := fun x : Ext w9 => keepc x.bel R2c0
  have F5 := fun x : Ext w9 => keepc x.bel R2c1
  have HV1 := fun x : Ext w9 => h9.out x.w (hrow.below x.bel)
  have HV2 := fun x : Ext w9 => h10.out x.w (hrow.below x.bel)
  clear Xc0 R1c0 R1c1 R2c0 R2c1
  repeat (go_big_quiet_step ((first | (go_at_call 33; exact ext_of (HV1 _)) | (go_at_call 34; exact ext_of (HV2 _)))))
  refine wpQuiet_nil ?_
  rintro _ ⟨x, rfl⟩
  have hb3 := x.bel
  generalize x.w = wz at hb3 ⊢
  clear F1 F2 F3 F4 F5 HV1 HV2
  go_wp2
  go_ret
  exact ⟨rfl, hB9.trans (hb3.mono hB9.size)⟩


theorem trains_law (A : Option Addr) (c : Nat) (L : List Mesh) (x y z t k : Int) (w : World) (hrow : RowAt w A (meshCells L)) (_hc : L.length ≤ c) (_hcm : c ≤ 9223372036854775807) :
    Calls Try.prog 6 #[.agg #[.slice A L.length c], .agg #[.int .i64 x, .int .i64 y, .int .i64 z], .int .i64 t, .int .i64 k] w fun e w' => e = .returned (.bool true) ∧ Below w.heap.size w w' := by
  by_cases hs : L.length ≤ 100
  · exact trains_core A c L x y z t k (ratioR L) (huntR ⟨x, y, z⟩) (gripsR ⟨x, y, z⟩) (meetsR ⟨x, y, z⟩ t k) (okTrain L) w hrow hs
      (fun W h => ratioOf_any A c L W h (by omega)) (fun W h => rratioOf_any A c L W h (by omega)) (fun W => hunting_any x y z W) (fun W => rhunting_any x y z W) (fun W => grips_any x y z W) (fun W => rgrips_any x y z W)
      (fun W => meets_any x y z t k W) (fun W => rmeets_any x y z t k W) (fun W h => validTrain_any A c L W h (by omega)) (fun W h => rvalidTrain_any A c L W h (by omega))
  · go_enter Try.func6, Try.ntmps6
    go_wp2_with fail
    refine (awake_any _).mono ?_
    rintro e' w0 ⟨rfl, hb0⟩
    have X : Bk w0 w.heap.size 24 #[.slice A L.length c] := ((bk_last rfl).alloc _).keep hb0
    have M : Bk w0 (w.heap.size + 1) 36 #[.int .i64 x, .int .i64 y, .int .i64 z] := (bk_last (by simp)).keep hb0
    replace hrow := ((hrow.alloc _).alloc _).below hb0
    have hB0 : Below w.heap.size w w0 := (((Below.refl w.heap.size w).alloc (Nat.le_refl _) _).alloc (by simp <;> omega) _).trans (hb0.mono (by simp <;> omega))
    clear hb0
    have Xc0 := X.cell 0
    simp at Xc0
    have Xl := X.lt
    go_wp2_with fail
    refine (short_false A L.length c _ hs).mono ?_
    rintro e' w1 ⟨rfl, hb1⟩
    replace X := X.keep hb1
    replace M := M.keep hb1
    replace hrow := hrow.below hb1
    have hB1 := hB0.trans (hb1.mono hB0.size)
    clear Xc0 Xl
    clear hb1 hB0
    go_wp2
    go_ret
    exact ⟨rfl, hB1⟩

end Go.Proofs.Ytheifigkclegdaa
