/-
  What is proved: the walk of GearsPlays.
-/
import Derived.Test.YtheifigkclegdaaShort
import Derived.Test.YtheifigkclegdaaRAllAny
import Derived.Test.YtheifigkclegdaaLawS
namespace Go.Proofs.Ytheifigkclegdaa
open Go.RowKit
attribute [local go_sem] Res.val whereV

set_option maxRecDepth 100000 in
set_option maxHeartbeats 16000000 in
theorem plays_core (A : Option Addr) (c : Nat) (L : List Mesh) (s t : Int) (r : Res) (q : (Int × Int) × Int) (xs : List Int) (e0 : Int) (w : World) (hrow : RowAt w A (meshCells L)) (hs : L.length ≤ 100) (hxs : xs.length ≤ 9223372036854775807)
    (h1 : Hid (RetR A L 24 #[.agg #[.slice A L.length c]] r.val)) (h2 : Hid (RetR A L 44 #[.agg #[.slice A L.length c]] r.val))
    (h3 : Hid (RetR A L 23 #[.agg #[.slice A L.length c], .int .i64 s, .int .i64 t] (whereV q))) (h4 : Hid (RetR A L 45 #[.agg #[.slice A L.length c], .int .i64 s, .int .i64 t] (whereV q)))
    (h5 : Hid (RetL A L 46 #[.agg #[.slice A L.length c], .int .i64 s] xs e0)) (h6 : Hid (RetL A L 47 #[.agg #[.slice A L.length c], .int .i64 s] xs e0)) :
    Calls Try.prog 11 #[.agg #[.slice A L.length c], .int .i64 s, .int .i64 t] w fun e w' => e = .returned (.bool true) ∧ Below w.heap.size w w' := by
  have E42 := eq42
  have E38 := eq38
  obtain ⟨rn, rd, re⟩ := r
  obtain ⟨⟨lo, hi⟩, qe⟩ := q
  go_enter Try.func11, Try.ntmps11
  go_wp2_with fail
  refine (awake_any _).mono ?_
  rintro e' w0 ⟨rfl, hb0⟩
  have X : Bk w0 w.heap.size 24 #[.slice A L.length c] := (bk_last rfl).keep hb0
  replace hrow := (hrow.alloc _).below hb0
  have hB0 : Below w.heap.size w w0 := ((Below.refl w.heap.size w).alloc (Nat.le_refl _) _).trans (hb0.mono (by simp <;> omega))
  clear hb0
  have Xc0 := X.cell 0
  simp at Xc0
  have Xl := X.lt
  go_wp2_with fail
  refine (short_true A L.length c _ hs).mono ?_
  rintro e' w1 ⟨rfl, hb1⟩
  replace X := X.keep hb1
  replace hrow := hrow.below hb1
  have hB1 := hB0.trans (hb1.mono hB0.size)
  clear Xc0 Xl
  clear hb1 hB0
  have Xc0 := X.cell 0
  simp at Xc0
  have Xl := X.lt
  go_wp2_with fail
  refine (h1.out _ hrow).mono ?_
  rintro e' w2 ⟨rfl, hb2⟩
  replace X := X.keep hb2
  replace hrow := hrow.below hb2
  have hB2 := hB1.trans (hb2.mono hB1.size)
  clear Xc0 Xl
  clear hb2 hB1
  have Xc0 := X.cell 0
  simp at Xc0
  have Xl := X.lt
  go_wp2_with fail
  refine (h2.out _ (hrow.alloc _)).mono ?_
  rintro e' w3 ⟨rfl, hb3⟩
  have R1 : Bk w3 w2.heap.size 42 #[.int .i64 rn, .int .i64 rd] := (bk_last rfl).keep hb3
  replace X := (X.alloc _).keep hb3
  replace hrow := (hrow.alloc _).below hb3
  have hB3 : Below w.heap.size w w3 := (hB2.alloc hB2.size _).trans (hb3.mono (by have := hB2.size; simp; omega))
  clear Xc0 Xl
  clear hb3 hB2
  have Xc0 := X.cell 0
  simp at Xc0
  have Xl := X.lt
  go_wp2_with fail
  refine (h3.out _ (hrow.alloc _)).mono ?_
  rintro e' w4 ⟨rfl, hb4⟩
  have R2 : Bk w4 w3.heap.size 42 #[.int .i64 rn, .int .i64 rd] := (bk_last rfl).keep hb4
  replace X := (X.alloc _).keep hb4
  replace R1 := (R1.alloc _).keep hb4
  replace hrow := (hrow.alloc _).below hb4
  have hB4 : Below w.heap.size w w4 := (hB3.alloc hB3.size _).trans (hb4.mono (by have := hB3.size; simp; omega))
  clear Xc0 Xl
  clear hb4 hB3
  have Xc0 := X.cell 0
  simp at Xc0
  have Xl := X.lt
  unfold whereV
  go_wp2_with fail
  refine (h4.out _ (hrow.alloc _)).mono ?_
  rintro e' w5 ⟨rfl, hb5⟩
  have S1 : Bk w5 w4.heap.size 38 #[.int .i64 lo, .int .i64 hi] := (bk_last rfl).keep hb5
  replace X := (X.alloc _).keep hb5
  replace R1 := (R1.alloc _).keep hb5
  replace R2 := (R2.alloc _).keep hb5
  replace hrow := (hrow.alloc _).below hb5
  have hB5 : Below w.heap.size w w5 := (hB4.alloc hB4.size _).trans (hb5.mono (by have := hB4.size; simp; omega))
  clear Xc0 Xl
  clear hb5 hB4
  have Xc0 := X.cell 0
  simp at Xc0
  have Xl := X.lt
  unfold whereV
  go_wp2_with fail
  refine (h5.out _ (hrow.alloc _)).mono ?_
  rintro e' w6 ⟨v1, rfl, ho1, hb6⟩
  have S2 : Bk w6 w5.heap.size 38 #[.int .i64 lo, .int .i64 hi] := (bk_last rfl).keep hb6
  replace X := (X.alloc _).keep hb6
  replace R1 := (R1.alloc _).keep hb6
  replace R2 := (R2.alloc _).keep hb6
  replace S1 := (S1.alloc _).keep hb6
  replace hrow := (hrow.alloc _).below hb6
  have hB6 : Below w.heap.size w w6 := (hB5.alloc hB5.size _).trans (hb6.mono (by have := hB5.size; simp; omega))
  obtain ⟨A1, c1, rfl, _, _, _⟩ := own_form ho1
  clear Xc0 Xl
  clear hb6 hB5
  have Xc0 := X.cell 0
  simp at Xc0
  have Xl := X.lt
  go_wp2_with fail
  refine (h6.out _ hrow).mono ?_
  rintro e' w7 ⟨v2, rfl, ho2, hb7⟩
  replace X := X.keep hb7
  replace R1 := R1.keep hb7
  replace R2 := R2.keep hb7
  replace S1 := S1.keep hb7
  replace S2 := S2.keep hb7
  replace hrow := hrow.below hb7
  replace ho1 := own_keep ho1 hb7
  have hB7 := hB6.trans (hb7.mono hB6.size)
  obtain ⟨A2, c2, rfl, _, _, _⟩ := own_form ho2
  clear Xc0 Xl
  clear hb7 hB6
  have R1c0 := R1.cell 0
  have R1c1 := R1.cell 1
  simp at R1c0 R1c1
  have R1l := R1.lt
  have R2c0 := R2.cell 0
  have R2c1 := R2.cell 1
  simp at R2c0 R2c1
  have R2l := R2.lt
  have S1c0 := S1.cell 0
  have S1c1 := S1.cell 1
  simp at S1c0 S1c1
  have S1l := S1.lt
  have S2c0 := S2.cell 0
  have S2c1 := S2.cell 1
  simp at S2c0 S2c1
  have S2l := S2.lt
  obtain ⟨_, _, e1, _, ra, _⟩ := own_form ho1
  injection e1 with e1 _ e1'
  subst e1 e1'
  obtain ⟨_, _, e2, _, rb, _⟩ := own_form ho2
  injection e2 with e2 _ e2'
  subst e2 e2'
  go_wp2_with fail
  refine (sameInts_any A1 A2 c1 c2 xs xs _ ra rb hxs hxs).mono ?_
  rintro e' wz ⟨rfl, nz, rfl⟩
  simp only [decide_true]
  go_wp2_with fail
  go_ret
  exact ⟨rfl, below_drewN hB7 _⟩


theorem plays_law (A : Option Addr) (c : Nat) (L : List Mesh) (s t : Int) (w : World) (hrow : RowAt w A (meshCells L)) (hc : L.length ≤ c) (hcm : c ≤ 9223372036854775807) :
    Calls Try.prog 11 #[.agg #[.slice A L.length c], .int .i64 s, .int .i64 t] w fun e w' => e = .returned (.bool true) ∧ Below w.heap.size w w' := by
  by_cases hs : L.length ≤ 100
  · exact plays_core A c L s t (playR L) (whereR L s t) (allR L s).1 (allR L s).2 w hrow hs (allR_len L s)
      (fun W h => play_any A c L W h hc hcm) (fun W h => rplay_any A c L W h (by omega)) (fun W h => wheres_any A c L s t W h hc hcm) (fun W h => rwhere_any A c L s t W h (by omega))
      (fun W h => all_any A c L s W h hc hcm) (fun W h => rall_any A c L s W h (by omega))
  · go_enter Try.func11, Try.ntmps11
    go_wp2_with fail
    refine (awake_any _).mono ?_
    rintro e' w0 ⟨rfl, hb0⟩
    have X : Bk w0 w.heap.size 24 #[.slice A L.length c] := (bk_last rfl).keep hb0
    replace hrow := (hrow.alloc _).below hb0
    have hB0 : Below w.heap.size w w0 := ((Below.refl w.heap.size w).alloc (Nat.le_refl _) _).trans (hb0.mono (by simp <;> omega))
    clear hb0
    have Xc0 := X.cell 0
    simp at Xc0
    have Xl := X.lt
    go_wp2_with fail
    refine (short_false A L.length c _ hs).mono ?_
    rintro e' w1 ⟨rfl, hb1⟩
    replace X := X.keep hb1
    replace hrow := hrow.below hb1
    have hB1 := hB0.trans (hb1.mono hB0.size)
    clear Xc0 Xl
    clear hb1 hB0
    go_wp2
    go_ret
    exact ⟨rfl, hB1⟩

end Go.Proofs.Ytheifigkclegdaa
