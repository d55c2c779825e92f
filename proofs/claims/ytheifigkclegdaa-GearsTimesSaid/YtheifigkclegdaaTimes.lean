/-
  What is proved: the contracts of gears.Runs and Time and of the specification's Runs and Time.
-/
import Derived.Test.YtheifigkclegdaaTime
import Derived.Test.YtheifigkclegdaaRFeed
import Derived.Test.YtheifigkclegdaaRTeeth
import Derived.Test.YtheifigkclegdaaRStands
import Derived.Test.YtheifigkclegdaaFracs
namespace Go.Proofs.Ytheifigkclegdaa
open Go.RowKit
attribute [local go_sem] Res.val

def runsR (L : List Mesh) (t m : Int) : Res :=
  if okTrain L then
    if inB t 0 1000000 && inB m 1 1000000 then
      if (ratioR L).err = 0 then low ((ratioR L).num * t.toNat) ((ratioR L).den * m.toNat) else ⟨0, 0, (ratioR L).err⟩
    else ⟨0, 0, 1⟩
  else ⟨0, 0, 70⟩

theorem ratio_okr {L : List Mesh} (hok : okTrain L = true) (h : (ratioR L).err = 0) : okRatio (ratioR L).num (ratioR L).den = true := by
  obtain ⟨_, _, k3⟩ := ok_train hok
  have hR : ratioR L = low (pr (drs L)) (pr (dns L)) := by rw [ratioR, if_pos hok]
  have hp : 1 ≤ pr (dns L) := pr_pos _ fun x hx => by
    obtain ⟨m, hm, rfl⟩ := List.mem_map.1 hx
    have := ok_mesh (k3 m hm)
    omega
  rw [hR] at h ⊢
  exact okRatio_low hp h

theorem okr_swap {n d : Nat} (hn : 1 ≤ n) (h : okRatio n d = true) : okRatio d n = true := by
  have hb := okRatio_bounds h
  simp only [okRatio, inB, Bool.and_eq_true, decide_eq_true_eq, beq_iff_eq, Int.toNat_natCast] at hb ⊢
  rw [Nat.gcd_comm]
  exact ⟨⟨⟨by omega, by omega⟩, ⟨by omega, by omega⟩⟩, hb.2.2.2.2⟩

theorem low_small {t m : Nat} (ht : t ≤ 1000000) (hm : 1 ≤ m) (hm2 : m ≤ 1000000) : (low t m).err = 0 := by
  unfold low
  have h1 : t / Nat.gcd t m ≤ t := Nat.div_le_self _ _
  have h2 : m / Nat.gcd t m ≤ m := Nat.div_le_self _ _
  rw [if_pos ⟨by omega, by omega⟩]

theorem times_low_right {rn rd t m : Nat} (hr : okRatio rn rd = true) (hm : 1 ≤ m) (hx : (low t m).err = 0) : timesR rn rd (low t m).num (low t m).den = low (rn * t) (rd * m) := by
  have hb := okRatio_bounds hr
  obtain ⟨e1, _, e2, _, _⟩ := low_ok t m hm hx
  rw [times_of_ok hr (okRatio_low hm hx)]
  simp only [Int.toNat_natCast]
  refine low_congr _ _ _ _ (one_mul_one (by omega) e2) (one_mul_one (by omega) hm) ?_
  generalize low t m = x at *
  calc rn * x.num * (rd * m) = x.num * m * (rn * rd) := by ac_rfl
    _ = t * x.den * (rn * rd) := by rw [e1]
    _ = rn * t * (rd * x.den) := by ac_rfl
theorem times_low_left {rn rd t m : Nat} (hr : okRatio rn rd = true) (hm : 1 ≤ m) (hx : (low t m).err = 0) : timesR (low t m).num (low t m).den rn rd = low (t * rn) (m * rd) := by
  rw [times_comm, times_low_right hr hm hx, Nat.mul_comm rn, Nat.mul_comm rd]


set_option maxRecDepth 100000 in
set_option maxHeartbeats 4000000 in
theorem runs_ok (A : Option Addr) (c t m : Nat) (L : List Mesh) (R : Res) (w : World) (hL : RowAt w A (meshCells L)) (hn : L.length ≤ 9223372036854775807) (hok : okTrain L = true) (ht : t ≤ 1000000) (hm1 : 1 ≤ m) (hm2 : m ≤ 1000000)
    (HR : Hid (R = if (ratioR L).err = 0 then low ((ratioR L).num * t) ((ratioR L).den * m) else ⟨0, 0, (ratioR L).err⟩)) :
    Calls Try.prog 38 #[.agg #[.slice A L.length c], .int .i64 t, .int .i64 m] w fun e w' => e = .returned R.val ∧ Below w.heap.size w w' := by
  have hmB : inB (m : Int) 1 1000000 = true := by simp [inB]; omega
  have hA : askedR L t = 0 := by simp [askedR, hok, inB]; omega
  have HF : Hid ((ratioR L).err = 0 → 1 ≤ (ratioR L).num ∧ (ratioR L).num ≤ 1000000000 ∧ 1 ≤ (ratioR L).den ∧ (ratioR L).den ≤ 1000000000) := fun h => ratio_fit hok h
  have HC : Hid (∀ W, RowAt W A (meshCells L) → Calls Try.prog 25 #[.agg #[.slice A L.length c]] W fun e w' => e = .returned (ratioR L).val ∧ Below W.heap.size W w') := fun W hW => ratioOf_any A c L W hW hn
  have HA : Hid (∀ W, RowAt W A (meshCells L) → Calls Try.prog 60 #[.agg #[.slice A L.length c], .int .i64 t] W fun e w' => e = .returned (.int .i64 0) ∧ Below W.heap.size W w') := fun W hW => by rw [← hA]; exact asked_any A c L t W hW hn
  clear hA hok
  generalize ratioR L = r at *
  obtain ⟨rn, rd, re⟩ := r
  simp only at HF HR
  go_enter Try.func38, Try.ntmps38
  go_wp2_with fail
  refine (HA.out _ ((hL.alloc _).alloc _)).mono ?_
  rintro e' w0 ⟨rfl, hb0⟩
  have X : Bk w0 w.heap.size 24 #[.slice A L.length c] := ((bk_last rfl).alloc _).keep hb0
  have E : Bk w0 (w.heap.size + 1) 42 #[.int .i64 0, .int .i64 0] := (bk_last (by simp)).keep hb0
  replace hL := ((hL.alloc _).alloc _).below hb0
  have hB0 : Below w.heap.size w w0 := (((Below.refl w.heap.size w).alloc (Nat.le_refl _) _).alloc (by simp <;> omega) _).trans (hb0.mono (by simp <;> omega))
  clear hb0
  have Xc0 := X.cell 0
  simp at Xc0
  have Xl := X.lt
  go_wp2_with (go_at_call 68; refine (within_any _ _ _ _).mono ?_; rintro e w' ⟨rfl, rfl⟩)
  refine (HC.out _ hL).mono ?_
  rintro e' w1 ⟨rfl, hb1⟩
  replace X := X.keep hb1
  replace E := E.keep hb1
  replace hL := hL.below hb1
  have hB1 := hB0.trans (hb1.mono hB0.size)
  clear Xc0 Xl
  clear hb1 hB0
  by_cases hre : re = 0
  · obtain ⟨n1, n2, n3, n4⟩ := HF.out hre
    subst hre
    have hR2 := HR.out
    rw [if_pos rfl] at hR2
    subst hR2
    go_wp2_with fail
    refine (of_any _ _ _).mono ?_
    rintro e' w2 ⟨rfl, hb2⟩
    have R1 : Bk w2 w1.heap.size 42 #[.int .i64 rn, .int .i64 rd] := (bk_last rfl).keep hb2
    replace X := (X.alloc _).keep hb2
    replace E := (E.alloc _).keep hb2
    replace hL := (hL.alloc _).below hb2
    have hB2 : Below w.heap.size w w2 := (hB1.alloc hB1.size _).trans (hb2.mono (by have := hB1.size; simp; omega))
    clear hb2 hB1
    have Ec0 := E.cell 0
    have Ec1 := E.cell 1
    simp at Ec0 Ec1
    have El := E.lt
    have Ef0 := E.fz 0
    have Ef1 := E.fz 1
    go_wp2_with fail
    refine (product2_any _ _ rn rd t m _ (by simp) (by simp [go_sem]) (by simp [go_sem]) (by simp [go_sem]) (by simp [go_sem]) (by omega) (by omega) (by omega) (by omega) (by omega) (by omega)).mono ?_
    rintro e' w3 ⟨rfl, hbz⟩
    have hb3 : Below w2.heap.size w2 w3 := ((Below.refl _ _).alloc (Nat.le_refl _) _).trans (hbz.mono (by simp))
    replace E := E.keep hb3
    have hB3 := hB2.trans (hb3.mono hB2.size)
    clear hbz hb3 Ec0 Ec1 El Ef0 Ef1
    have Ec0 := E.cell 0
    have Ec1 := E.cell 1
    simp at Ec0 Ec1
    have El := E.lt
    have Ef0 := E.fz 0
    have Ef1 := E.fz 1
    go_wp2_with fail
    refine bodyPost_ret (v := (low (rn * t) (rd * m)).val) (by simp [results, Try.results38, go_sem, Ec0, Ec1]) rfl ⟨rfl, (hB3.setCell (by simp <;> omega) _).setCell (by simp <;> omega) _⟩
  · have hR2 := HR.out
    rw [if_neg hre] at hR2
    subst hR2
    have hr1 : ((re : Int) == 0) = false := by simp; omega
    have Ec0 := E.cell 0
    have Ec1 := E.cell 1
    simp at Ec0 Ec1
    have El := E.lt
    have Ef0 := E.fz 0
    have Ef1 := E.fz 1
    go_wp2_with fail
    refine bodyPost_ret (v := (⟨0, 0, re⟩ : Res).val) (by simp [results, Try.results38, go_sem, Ec0, Ec1, El]) rfl ⟨rfl, ((hB1.setCell (by simp <;> omega) _).setCell (by simp <;> omega) _).alloc (by simpa using hB1.size) _⟩

set_option maxRecDepth 100000 in
set_option maxHeartbeats 4000000 in
theorem runs_any (A : Option Addr) (c : Nat) (L : List Mesh) (t m : Int) (w : World) (hL : RowAt w A (meshCells L)) (hn : L.length ≤ 9223372036854775807) :
    Calls Try.prog 38 #[.agg #[.slice A L.length c], .int .i64 t, .int .i64 m] w fun e w' => e = .returned (runsR L t m).val ∧ Below w.heap.size w w' := by
  by_cases hok : okTrain L = true
  · by_cases ht : inB t 0 1000000 = true
    · by_cases hm : inB m 1 1000000 = true
      · have ht' := ht
        have hm' := hm
        simp only [inB, decide_eq_true_eq] at ht' hm'
        obtain ⟨t, rfl⟩ := Int.eq_ofNat_of_zero_le ht'.1
        obtain ⟨m, rfl⟩ := Int.eq_ofNat_of_zero_le (show 0 ≤ m by omega)
        have hR : runsR L t m = if (ratioR L).err = 0 then low ((ratioR L).num * t) ((ratioR L).den * m) else ⟨0, 0, (ratioR L).err⟩ := by
          rw [runsR, if_pos hok, ht, hm]
          rfl
        exact runs_ok A c t m L _ w hL hn hok (by omega) (by omega) (by omega) hR
      · have hR : runsR L t m = ⟨0, 0, 1⟩ := by rw [runsR, if_pos hok, if_neg (by simp [hm])]
        have hA : askedR L t = 0 := by rw [askedR, if_pos hok, if_pos ht]
        have hm' : inB m 1 1000000 = false := by simpa using hm
        rw [hR]
        clear hR
        go_enter Try.func38, Try.ntmps38
        go_wp2_with fail
        refine (asked_any _ _ _ _ _ ((hL.alloc _).alloc _) hn).mono ?_
        rintro e' w0 ⟨rfl, hb0⟩
        have X : Bk w0 w.heap.size 24 #[.slice A L.length c] := ((bk_last rfl).alloc _).keep hb0
        have E : Bk w0 (w.heap.size + 1) 42 #[.int .i64 0, .int .i64 0] := (bk_last (by simp)).keep hb0
        replace hL := ((hL.alloc _).alloc _).below hb0
        have hB0 : Below w.heap.size w w0 := (((Below.refl w.heap.size w).alloc (Nat.le_refl _) _).alloc (by simp <;> omega) _).trans (hb0.mono (by simp <;> omega))
        clear hb0
        rw [hA]
        have Xc0 := X.cell 0
        simp at Xc0
        have Xl := X.lt
        have Ec0 := E.cell 0
        have Ec1 := E.cell 1
        simp at Ec0 Ec1
        have El := E.lt
        have Ef0 := E.fz 0
        have Ef1 := E.fz 1
        go_wp2_with (go_at_call 68; refine (within_any _ _ _ _).mono ?_; rintro e w' ⟨rfl, rfl⟩)
        refine bodyPost_ret (v := (⟨0, 0, 1⟩ : Res).val) (by simp [results, Try.results38, go_sem, Ec0, Ec1]) rfl ⟨rfl, (hB0.setCell (by simp <;> omega) _).setCell (by simp <;> omega) _⟩
    · have hR : runsR L t m = ⟨0, 0, 1⟩ := by rw [runsR, if_pos hok, if_neg (by simp [ht])]
      have hA : askedR L t = 1 := by rw [askedR, if_pos hok, if_neg ht]
      rw [hR]
      clear hR
      go_enter Try.func38, Try.ntmps38
      go_wp2_with fail
      refine (asked_any _ _ _ _ _ ((hL.alloc _).alloc _) hn).mono ?_
      rintro e' w0 ⟨rfl, hb0⟩
      have X : Bk w0 w.heap.size 24 #[.slice A L.length c] := ((bk_last rfl).alloc _).keep hb0
      have E : Bk w0 (w.heap.size + 1) 42 #[.int .i64 0, .int .i64 0] := (bk_last (by simp)).keep hb0
      replace hL := ((hL.alloc _).alloc _).below hb0
      have hB0 : Below w.heap.size w w0 := (((Below.refl w.heap.size w).alloc (Nat.le_refl _) _).alloc (by simp <;> omega) _).trans (hb0.mono (by simp <;> omega))
      clear hb0
      rw [hA]
      have Xc0 := X.cell 0
      simp at Xc0
      have Xl := X.lt
      have Ec0 := E.cell 0
      have Ec1 := E.cell 1
      simp at Ec0 Ec1
      have El := E.lt
      have Ef0 := E.fz 0
      have Ef1 := E.fz 1
      go_wp2_with fail
      refine bodyPost_ret (v := (⟨0, 0, 1⟩ : Res).val) (by simp [results, Try.results38, go_sem, Ec0, Ec1]) rfl ⟨rfl, (hB0.setCell (by simp <;> omega) _).setCell (by simp <;> omega) _⟩
  · have hR : runsR L t m = ⟨0, 0, 70⟩ := by rw [runsR, if_neg hok]
    have hA : askedR L t = 70 := by rw [askedR, if_neg hok]
    rw [hR]
    clear hR
    go_enter Try.func38, Try.ntmps38
    go_wp2_with fail
    refine (asked_any _ _ _ _ _ ((hL.alloc _).alloc _) hn).mono ?_
    rintro e' w0 ⟨rfl, hb0⟩
    have X : Bk w0 w.heap.size 24 #[.slice A L.length c] := ((bk_last rfl).alloc _).keep hb0
    have E : Bk w0 (w.heap.size + 1) 42 #[.int .i64 0, .int .i64 0] := (bk_last (by simp)).keep hb0
    replace hL := ((hL.alloc _).alloc _).below hb0
    have hB0 : Below w.heap.size w w0 := (((Below.refl w.heap.size w).alloc (Nat.le_refl _) _).alloc (by simp <;> omega) _).trans (hb0.mono (by simp <;> omega))
    clear hb0
    rw [hA]
    have Xc0 := X.cell 0
    simp at Xc0
    have Xl := X.lt
    have Ec0 := E.cell 0
    have Ec1 := E.cell 1
    simp at Ec0 Ec1
    have El := E.lt
    have Ef0 := E.fz 0
    have Ef1 := E.fz 1
    go_wp2_with fail
    refine bodyPost_ret (v := (⟨0, 0, 70⟩ : Res).val) (by simp [results, Try.results38, go_sem, Ec0, Ec1]) rfl ⟨rfl, (hB0.setCell (by simp <;> omega) _).setCell (by simp <;> omega) _⟩

set_option maxRecDepth 100000 in
set_option maxHeartbeats 4000000 in
theorem rruns_ok (A : Option Addr) (c t m : Nat) (L : List Mesh) (R : Res) (w : World) (hL : RowAt w A (meshCells L)) (hn : L.length ≤ 9223372036854775807) (hok : okTrain L = true) (ht : t ≤ 1000000) (hm1 : 1 ≤ m) (hm2 : m ≤ 1000000)
    (HR : Hid (R = if (ratioR L).err = 0 then low ((ratioR L).num * t) ((ratioR L).den * m) else ⟨0, 0, (ratioR L).err⟩)) :
    Calls Try.prog 39 #[.agg #[.slice A L.length c], .int .i64 t, .int .i64 m] w fun e w' => e = .returned R.val ∧ Below w.heap.size w w' := by
  have htB : inB (t : Int) 0 1000000 = true := by simp [inB]; omega
  have hmB : inB (m : Int) 1 1000000 = true := by simp [inB]; omega
  have hx := low_small ht hm1 hm2
  have HT : Hid ((ratioR L).err = 0 → timesR (ratioR L).num (ratioR L).den (low t m).num (low t m).den = low ((ratioR L).num * t) ((ratioR L).den * m)) := fun h => times_low_right (ratio_okr hok h) hm1 hx
  have hRd : reduceR t m = low t m := by rw [reduceR, if_neg (by omega)]; simp
  have HD : Hid (∀ W, Calls Try.prog 53 #[.int .i64 t, .int .i64 m] W fun e w' => e = .returned (low t m).val ∧ Below W.heap.size W w') := fun W => by rw [← hRd]; exact rreduce_any t m W (by omega) (by omega)
  have HC : Hid (∀ W, RowAt W A (meshCells L) → Calls Try.prog 26 #[.agg #[.slice A L.length c]] W fun e w' => e = .returned (ratioR L).val ∧ Below W.heap.size W w') := fun W hW => rratioOf_any A c L W hW hn
  have HA : Hid (∀ W, RowAt W A (meshCells L) → Calls Try.prog 34 #[.agg #[.slice A L.length c]] W fun e w' => e = .returned (.bool true) ∧ Below W.heap.size W w') := fun W hW => by rw [← hok]; exact rvalidTrain_any A c L W hW hn
  clear hRd hok hx
  generalize low t m = x at *
  generalize ratioR L = r at *
  obtain ⟨rn, rd, re⟩ := r
  obtain ⟨xn, xd, xe⟩ := x
  simp only at HT HR
  go_enter Try.func39, Try.ntmps39
  go_wp2_with fail
  refine (HA.out _ ((hL.alloc _).alloc _)).mono ?_
  rintro e' w0 ⟨rfl, hb0⟩
  have X : Bk w0 w.heap.size 24 #[.slice A L.length c] := ((bk_last rfl).alloc _).keep hb0
  have E : Bk w0 (w.heap.size + 1) 42 #[.int .i64 0, .int .i64 0] := (bk_last (by simp)).keep hb0
  replace hL := ((hL.alloc _).alloc _).below hb0
  have hB0 : Below w.heap.size w w0 := (((Below.refl w.heap.size w).alloc (Nat.le_refl _) _).alloc (by simp <;> omega) _).trans (hb0.mono (by simp <;> omega))
  clear hb0
  have Xc0 := X.cell 0
  simp at Xc0
  have Xl := X.lt
  go_wp2_with (go_at_call 78; refine (rwithin_any _ _ _ _).mono ?_; rintro e w' ⟨rfl, rfl⟩)
  refine (HC.out _ hL).mono ?_
  rintro e' w1 ⟨rfl, hb1⟩
  replace X := X.keep hb1
  replace E := E.keep hb1
  replace hL := hL.below hb1
  have hB1 := hB0.trans (hb1.mono hB0.size)
  clear Xc0 Xl
  clear hb1 hB0
  by_cases hre : re = 0
  · subst hre
    have hR2 := HR.out
    rw [if_pos rfl, ← HT.out rfl] at hR2
    subst hR2
    go_wp2_with fail
    refine (HD.out _).mono ?_
    rintro e' w2 ⟨rfl, hb2⟩
    have R1 : Bk w2 w1.heap.size 42 #[.int .i64 rn, .int .i64 rd] := (bk_last rfl).keep hb2
    replace X := (X.alloc _).keep hb2
    replace E := (E.alloc _).keep hb2
    replace hL := (hL.alloc _).below hb2
    have hB2 : Below w.heap.size w w2 := (hB1.alloc hB1.size _).trans (hb2.mono (by have := hB1.size; simp; omega))
    clear hb2 hB1
    have R1c0 := R1.cell 0
    have R1c1 := R1.cell 1
    simp at R1c0 R1c1
    have R1l := R1.lt
    go_wp2_with fail
    refine (rtimes_any _ _ _ _ _).mono ?_
    rintro e' w3 ⟨rfl, hb3⟩
    have R2 : Bk w3 w2.heap.size 42 #[.int .i64 xn, .int .i64 xd] := (bk_last rfl).keep hb3
    replace X := (X.alloc _).keep hb3
    replace E := (E.alloc _).keep hb3
    replace R1 := (R1.alloc _).keep hb3
    replace hL := (hL.alloc _).below hb3
    have hB3 : Below w.heap.size w w3 := (hB2.alloc hB2.size _).trans (hb3.mono (by have := hB2.size; simp; omega))
    clear R1c0 R1c1 R1l
    clear hb3 hB2
    have Ec0 := E.cell 0
    have Ec1 := E.cell 1
    simp at Ec0 Ec1
    have El := E.lt
    have Ef0 := E.fz 0
    have Ef1 := E.fz 1
    go_wp2_with fail
    refine bodyPost_ret (v := (timesR rn rd xn xd).val) (by simp [results, Try.results39, go_sem, Ec0, Ec1]) rfl ⟨rfl, (hB3.setCell (by simp <;> omega) _).setCell (by simp <;> omega) _⟩
  · have hR2 := HR.out
    rw [if_neg hre] at hR2
    subst hR2
    have hr1 : ((re : Int) == 0) = false := by simp; omega
    have Ec0 := E.cell 0
    have Ec1 := E.cell 1
    simp at Ec0 Ec1
    have El := E.lt
    have Ef0 := E.fz 0
    have Ef1 := E.fz 1
    go_wp2_with fail
    refine bodyPost_ret (v := (⟨0, 0, re⟩ : Res).val) (by simp [results, Try.results39, go_sem, Ec0, Ec1, El]) rfl ⟨rfl, ((hB1.setCell (by simp <;> omega) _).setCell (by simp <;> omega) _).alloc (by simpa using hB1.size) _⟩

set_option maxRecDepth 100000 in
set_option maxHeartbeats 4000000 in
theorem rruns_any (A : Option Addr) (c : Nat) (L : List Mesh) (t m : Int) (w : World) (hL : RowAt w A (meshCells L)) (hn : L.length ≤ 9223372036854775807) :
    Calls Try.prog 39 #[.agg #[.slice A L.length c], .int .i64 t, .int .i64 m] w fun e w' => e = .returned (runsR L t m).val ∧ Below w.heap.size w w' := by
  by_cases hok : okTrain L = true
  · by_cases ht : inB t 0 1000000 = true
    · by_cases hm : inB m 1 1000000 = true
      · have ht' := ht
        have hm' := hm
        simp only [inB, decide_eq_true_eq] at ht' hm'
        obtain ⟨t, rfl⟩ := Int.eq_ofNat_of_zero_le ht'.1
        obtain ⟨m, rfl⟩ := Int.eq_ofNat_of_zero_le (show 0 ≤ m by omega)
        have hR : runsR L t m = if (ratioR L).err = 0 then low ((ratioR L).num * t) ((ratioR L).den * m) else ⟨0, 0, (ratioR L).err⟩ := by
          rw [runsR, if_pos hok, ht, hm]
          rfl
        exact rruns_ok A c t m L _ w hL hn hok (by omega) (by omega) (by omega) hR
      · have hR : runsR L t m = ⟨0, 0, 1⟩ := by rw [runsR, if_pos hok, if_neg (by simp [hm])]
        have hm' : inB m 1 1000000 = false := by simpa using hm
        rw [hR]
        clear hR
        go_enter Try.func39, Try.ntmps39
        go_wp2_with fail
        refine (rvalidTrain_any _ _ _ _ ((hL.alloc _).alloc _) hn).mono ?_
        rintro e' w0 ⟨rfl, hb0⟩
        have X : Bk w0 w.heap.size 24 #[.slice A L.length c] := ((bk_last rfl).alloc _).keep hb0
        have E : Bk w0 (w.heap.size + 1) 42 #[.int .i64 0, .int .i64 0] := (bk_last (by simp)).keep hb0
        replace hL := ((hL.alloc _).alloc _).below hb0
        have hB0 : Below w.heap.size w w0 := (((Below.refl w.heap.size w).alloc (Nat.le_refl _) _).alloc (by simp <;> omega) _).trans (hb0.mono (by simp <;> omega))
        clear hb0
        rw [hok]
        have Xc0 := X.cell 0
        simp at Xc0
        have Xl := X.lt
        have Ec0 := E.cell 0
        have Ec1 := E.cell 1
        simp at Ec0 Ec1
        have El := E.lt
        have Ef0 := E.fz 0
        have Ef1 := E.fz 1
        go_wp2_with (go_at_call 78; refine (rwithin_any _ _ _ _).mono ?_; rintro e w' ⟨rfl, rfl⟩)
        refine bodyPost_ret (v := (⟨0, 0, 1⟩ : Res).val) (by simp [results, Try.results39, go_sem, Ec0, Ec1]) rfl ⟨rfl, (hB0.setCell (by simp <;> omega) _).setCell (by simp <;> omega) _⟩
    · have hR : runsR L t m = ⟨0, 0, 1⟩ := by rw [runsR, if_pos hok, if_neg (by simp [ht])]
      have ht' : inB t 0 1000000 = false := by simpa using ht
      rw [hR]
      clear hR
      go_enter Try.func39, Try.ntmps39
      go_wp2_with fail
      refine (rvalidTrain_any _ _ _ _ ((hL.alloc _).alloc _) hn).mono ?_
      rintro e' w0 ⟨rfl, hb0⟩
      have X : Bk w0 w.heap.size 24 #[.slice A L.length c] := ((bk_last rfl).alloc _).keep hb0
      have E : Bk w0 (w.heap.size + 1) 42 #[.int .i64 0, .int .i64 0] := (bk_last (by simp)).keep hb0
      replace hL := ((hL.alloc _).alloc _).below hb0
      have hB0 : Below w.heap.size w w0 := (((Below.refl w.heap.size w).alloc (Nat.le_refl _) _).alloc (by simp <;> omega) _).trans (hb0.mono (by simp <;> omega))
      clear hb0
      rw [hok]
      have Xc0 := X.cell 0
      simp at Xc0
      have Xl := X.lt
      have Ec0 := E.cell 0
      have Ec1 := E.cell 1
      simp at Ec0 Ec1
      have El := E.lt
      have Ef0 := E.fz 0
      have Ef1 := E.fz 1
      go_wp2_with (go_at_call 78; refine (rwithin_any _ _ _ _).mono ?_; rintro e w' ⟨rfl, rfl⟩)
      refine bodyPost_ret (v := (⟨0, 0, 1⟩ : Res).val) (by simp [results, Try.results39, go_sem, Ec0, Ec1]) rfl ⟨rfl, (hB0.setCell (by simp <;> omega) _).setCell (by simp <;> omega) _⟩
  · have hR : runsR L t m = ⟨0, 0, 70⟩ := by rw [runsR, if_neg hok]
    have hok' : okTrain L = false := by simpa using hok
    rw [hR]
    clear hR
    go_enter Try.func39, Try.ntmps39
    go_wp2_with fail
    refine (rvalidTrain_any _ _ _ _ ((hL.alloc _).alloc _) hn).mono ?_
    rintro e' w0 ⟨rfl, hb0⟩
    have X : Bk w0 w.heap.size 24 #[.slice A L.length c] := ((bk_last rfl).alloc _).keep hb0
    have E : Bk w0 (w.heap.size + 1) 42 #[.int .i64 0, .int .i64 0] := (bk_last (by simp)).keep hb0
    replace hL := ((hL.alloc _).alloc _).below hb0
    have hB0 : Below w.heap.size w w0 := (((Below.refl w.heap.size w).alloc (Nat.le_refl _) _).alloc (by simp <;> omega) _).trans (hb0.mono (by simp <;> omega))
    clear hb0
    rw [hok']
    have Xc0 := X.cell 0
    simp at Xc0
    have Xl := X.lt
    have Ec0 := E.cell 0
    have Ec1 := E.cell 1
    simp at Ec0 Ec1
    have El := E.lt
    have Ef0 := E.fz 0
    have Ef1 := E.fz 1
    go_wp2_with fail
    refine bodyPost_ret (v := (⟨0, 0, 70⟩ : Res).val) (by simp [results, Try.results39, go_sem, Ec0, Ec1]) rfl ⟨rfl, (hB0.setCell (by simp <;> omega) _).setCell (by simp <;> omega) _⟩

set_option maxRecDepth 100000 in
set_option maxHeartbeats 4000000 in
theorem time_any (A : Option Addr) (c : Nat) (h d k n : Int) (L : List Mesh) (w : World) (hL : RowAt w A (meshCells L)) (hn : L.length ≤ 9223372036854775807) :
    Calls Try.prog 42 #[.agg #[.slice A L.length c], .agg #[.int .i64 h, .int .i64 d, .int .i64 k], .int .i64 n] w fun e w' => e = .returned (timeR L h d k n).val ∧ Below w.heap.size w w' := by
  by_cases hok : okTrain L = true
  · by_cases hf : okFeed h d k = true
    · by_cases hk : inB n 0 1000000 = true
      · have hb := okFeed_bounds hf
        have hk' := hk
        simp only [inB, decide_eq_true_eq] at hk'
        obtain ⟨h, rfl⟩ := Int.eq_ofNat_of_zero_le hb.1
        obtain ⟨d, rfl⟩ := Int.eq_ofNat_of_zero_le (show 0 ≤ d by omega)
        obtain ⟨k, rfl⟩ := Int.eq_ofNat_of_zero_le (show 0 ≤ k by omega)
        obtain ⟨n, rfl⟩ := Int.eq_ofNat_of_zero_le hk'.1
        exact time_ok A c h d k n L _ w hL hn hok hf (by omega) rfl
      · have hR : timeR L h d k n = ⟨0, 0, 1⟩ := by rw [timeR, if_pos hok, if_pos hf, if_neg hk]
        have hk' : inB n 0 1000000 = false := by simpa using hk
        rw [hR]
        clear hR
        go_enter Try.func42, Try.ntmps42
        go_wp2_with fail
        refine (validTrain_any _ _ _ _ (((hL.alloc _).alloc _).alloc _) hn).mono ?_
        rintro e' w0 ⟨rfl, hb0⟩
        have X : Bk w0 w.heap.size 24 #[.slice A L.length c] := (((bk_last rfl).alloc _).alloc _).keep hb0
        have F : Bk w0 (w.heap.size + 1) 57 #[.int .i64 h, .int .i64 d, .int .i64 k] := ((bk_last (by simp)).alloc _).keep hb0
        have E : Bk w0 (w.heap.size + 1 + 1) 42 #[.int .i64 0, .int .i64 0] := (bk_last (by simp)).keep hb0
        replace hL := (((hL.alloc _).alloc _).alloc _).below hb0
        have hB0 : Below w.heap.size w w0 := ((((Below.refl w.heap.size w).alloc (Nat.le_refl _) _).alloc (by simp <;> omega) _).alloc (by simp <;> omega) _).trans (hb0.mono (by simp <;> omega))
        clear hb0
        rw [hok]
        have Xc0 := X.cell 0
        simp at Xc0
        have Xl := X.lt
        have Fc0 := F.cell 0
        have Fc1 := F.cell 1
        have Fc2 := F.cell 2
        simp at Fc0 Fc1 Fc2
        have Fl := F.lt
        go_wp2_with fail
        refine (validFeed_any _ _ _ _).mono ?_
        rintro e' w1 ⟨rfl, hb1⟩
        replace X := X.keep hb1
        replace F := F.keep hb1
        replace E := E.keep hb1
        replace hL := hL.below hb1
        have hB1 := hB0.trans (hb1.mono hB0.size)
        rw [hf]
        clear Xc0 Xl Fc0 Fc1 Fc2 Fl
        clear hb1 hB0
        have Xc0 := X.cell 0
        simp at Xc0
        have Xl := X.lt
        have Fc0 := F.cell 0
        have Fc1 := F.cell 1
        have Fc2 := F.cell 2
        simp at Fc0 Fc1 Fc2
        have Fl := F.lt
        have Ec0 := E.cell 0
        have Ec1 := E.cell 1
        simp at Ec0 Ec1
        have El := E.lt
        have Ef0 := E.fz 0
        have Ef1 := E.fz 1
        go_wp2_with (go_at_call 68; refine (within_any _ _ _ _).mono ?_; rintro e w' ⟨rfl, rfl⟩)
        refine bodyPost_ret (v := (⟨0, 0, 1⟩ : Res).val) (by simp [results, Try.results42, go_sem, Ec0, Ec1]) rfl ⟨rfl, (hB1.setCell (by simp <;> omega) _).setCell (by simp <;> omega) _⟩
    · have hR : timeR L h d k n = ⟨0, 0, 33⟩ := by rw [timeR, if_pos hok, if_neg hf]
      have hf' : okFeed h d k = false := by simpa using hf
      rw [hR]
      clear hR
      go_enter Try.func42, Try.ntmps42
      go_wp2_with fail
      refine (validTrain_any _ _ _ _ (((hL.alloc _).alloc _).alloc _) hn).mono ?_
      rintro e' w0 ⟨rfl, hb0⟩
      have X : Bk w0 w.heap.size 24 #[.slice A L.length c] := (((bk_last rfl).alloc _).alloc _).keep hb0
      have F : Bk w0 (w.heap.size + 1) 57 #[.int .i64 h, .int .i64 d, .int .i64 k] := ((bk_last (by simp)).alloc _).keep hb0
      have E : Bk w0 (w.heap.size + 1 + 1) 42 #[.int .i64 0, .int .i64 0] := (bk_last (by simp)).keep hb0
      replace hL := (((hL.alloc _).alloc _).alloc _).below hb0
      have hB0 : Below w.heap.size w w0 := ((((Below.refl w.heap.size w).alloc (Nat.le_refl _) _).alloc (by simp <;> omega) _).alloc (by simp <;> omega) _).trans (hb0.mono (by simp <;> omega))
      clear hb0
      rw [hok]
      have Xc0 := X.cell 0
      simp at Xc0
      have Xl := X.lt
      have Fc0 := F.cell 0
      have Fc1 := F.cell 1
      have Fc2 := F.cell 2
      simp at Fc0 Fc1 Fc2
      have Fl := F.lt
      go_wp2_with fail
      refine (validFeed_any _ _ _ _).mono ?_
      rintro e' w1 ⟨rfl, hb1⟩
      replace X := X.keep hb1
      replace F := F.keep hb1
      replace E := E.keep hb1
      replace hL := hL.below hb1
      have hB1 := hB0.trans (hb1.mono hB0.size)
      rw [hf']
      clear Xc0 Xl Fc0 Fc1 Fc2 Fl
      clear hb1 hB0
      have Xc0 := X.cell 0
      simp at Xc0
      have Xl := X.lt
      have Fc0 := F.cell 0
      have Fc1 := F.cell 1
      have Fc2 := F.cell 2
      simp at Fc0 Fc1 Fc2
      have Fl := F.lt
      have Ec0 := E.cell 0
      have Ec1 := E.cell 1
      simp at Ec0 Ec1
      have El := E.lt
      have Ef0 := E.fz 0
      have Ef1 := E.fz 1
      go_wp2_with (go_at_call 68; refine (within_any _ _ _ _).mono ?_; rintro e w' ⟨rfl, rfl⟩)
      refine bodyPost_ret (v := (⟨0, 0, 33⟩ : Res).val) (by simp [results, Try.results42, go_sem, Ec0, Ec1]) rfl ⟨rfl, (hB1.setCell (by simp <;> omega) _).setCell (by simp <;> omega) _⟩
  · have hR : timeR L h d k n = ⟨0, 0, 70⟩ := by rw [timeR, if_neg hok]
    have hok' : okTrain L = false := by simpa using hok
    rw [hR]
    clear hR
    go_enter Try.func42, Try.ntmps42
    go_wp2_with fail
    refine (validTrain_any _ _ _ _ (((hL.alloc _).alloc _).alloc _) hn).mono ?_
    rintro e' w0 ⟨rfl, hb0⟩
    have X : Bk w0 w.heap.size 24 #[.slice A L.length c] := (((bk_last rfl).alloc _).alloc _).keep hb0
    have F : Bk w0 (w.heap.size + 1) 57 #[.int .i64 h, .int .i64 d, .int .i64 k] := ((bk_last (by simp)).alloc _).keep hb0
    have E : Bk w0 (w.heap.size + 1 + 1) 42 #[.int .i64 0, .int .i64 0] := (bk_last (by simp)).keep hb0
    replace hL := (((hL.alloc _).alloc _).alloc _).below hb0
    have hB0 : Below w.heap.size w w0 := ((((Below.refl w.heap.size w).alloc (Nat.le_refl _) _).alloc (by simp <;> omega) _).alloc (by simp <;> omega) _).trans (hb0.mono (by simp <;> omega))
    clear hb0
    rw [hok']
    have Xc0 := X.cell 0
    simp at Xc0
    have Xl := X.lt
    have Fc0 := F.cell 0
    have Fc1 := F.cell 1
    have Fc2 := F.cell 2
    simp at Fc0 Fc1 Fc2
    have Fl := F.lt
    have Ec0 := E.cell 0
    have Ec1 := E.cell 1
    simp at Ec0 Ec1
    have El := E.lt
    have Ef0 := E.fz 0
    have Ef1 := E.fz 1
    go_wp2_with (go_at_call 68; refine (within_any _ _ _ _).mono ?_; rintro e w' ⟨rfl, rfl⟩)
    refine bodyPost_ret (v := (⟨0, 0, 70⟩ : Res).val) (by simp [results, Try.results42, go_sem, Ec0, Ec1]) rfl ⟨rfl, (hB0.setCell (by simp <;> omega) _).setCell (by simp <;> omega) _⟩

set_option maxRecDepth 100000 in
set_option maxHeartbeats 4000000 in
theorem rtime_ok (A : Option Addr) (c h d k n : Nat) (L : List Mesh) (R : Res) (w : World) (hL : RowAt w A (meshCells L)) (hn : L.length ≤ 9223372036854775807) (hok : okTrain L = true) (hf : okFeed h d k = true) (hn1 : n ≤ 1000000)
    (hR : Hid (timeR L h d k n = R)) :
    Calls Try.prog 43 #[.agg #[.slice A L.length c], .agg #[.int .i64 h, .int .i64 d, .int .i64 k], .int .i64 n] w fun e w' => e = .returned R.val ∧ Below w.heap.size w w' := by
  have hbd := okFeed_bounds hf
  have hn2 : inB (n : Int) 0 1000000 = true := by simp [inB]; omega
  have hx := low_small hn1 (show 1 ≤ k by omega) (by omega)
  have HT : Hid ((ratioR L).err = 0 → timesR (low n k).num (low n k).den (ratioR L).den (ratioR L).num = low (n * (ratioR L).den) (k * (ratioR L).num)) := fun h => times_low_left (okr_swap (ratio_fit hok h).1 (ratio_okr hok h)) (by omega) hx
  have hRd : reduceR n k = low n k := by rw [reduceR, if_neg (by omega)]; simp
  have HD : Hid (∀ W, Calls Try.prog 53 #[.int .i64 n, .int .i64 k] W fun e w' => e = .returned (low n k).val ∧ Below W.heap.size W w') := fun W => by rw [← hRd]; exact rreduce_any n k W (by omega) (by omega)
  have HC : Hid (∀ W, RowAt W A (meshCells L) → Calls Try.prog 26 #[.agg #[.slice A L.length c]] W fun e w' => e = .returned (ratioR L).val ∧ Below W.heap.size W w') := fun W hW => rratioOf_any A c L W hW hn
  have HA : Hid (∀ W, RowAt W A (meshCells L) → Calls Try.prog 34 #[.agg #[.slice A L.length c]] W fun e w' => e = .returned (.bool true) ∧ Below W.heap.size W w') := fun W hW => by rw [← hok]; exact rvalidTrain_any A c L W hW hn
  have HV : Hid (∀ W, Calls Try.prog 82 #[.agg #[.int .i64 h, .int .i64 d, .int .i64 k]] W fun e w' => e = .returned (.bool true) ∧ Below W.heap.size W w') := fun W => by rw [← hf]; exact rvalidFeed_any h d k W
  have HR : Hid (R = if (ratioR L).err = 0 then low (n * (ratioR L).den) (k * (ratioR L).num) else ⟨0, 0, (ratioR L).err⟩) := by
    unfold Hid
    rw [← hR.out, timeR, if_pos hok, if_pos hf, if_pos hn2]
    simp
  clear hRd hok hf hx hR
  generalize low n k = x at *
  generalize ratioR L = r at *
  obtain ⟨rn, rd, re⟩ := r
  obtain ⟨xn, xd, xe⟩ := x
  simp only at HT HR
  go_enter Try.func43, Try.ntmps43
  go_wp2_with fail
  refine (HA.out _ (((hL.alloc _).alloc _).alloc _)).mono ?_
  rintro e' w0 ⟨rfl, hb0⟩
  have X : Bk w0 w.heap.size 24 #[.slice A L.length c] := (((bk_last rfl).alloc _).alloc _).keep hb0
  have F : Bk w0 (w.heap.size + 1) 57 #[.int .i64 h, .int .i64 d, .int .i64 k] := ((bk_last (by simp)).alloc _).keep hb0
  have E : Bk w0 (w.heap.size + 1 + 1) 42 #[.int .i64 0, .int .i64 0] := (bk_last (by simp)).keep hb0
  replace hL := (((hL.alloc _).alloc _).alloc _).below hb0
  have hB0 : Below w.heap.size w w0 := ((((Below.refl w.heap.size w).alloc (Nat.le_refl _) _).alloc (by simp <;> omega) _).alloc (by simp <;> omega) _).trans (hb0.mono (by simp <;> omega))
  clear hb0
  have Xc0 := X.cell 0
  simp at Xc0
  have Xl := X.lt
  have Fc0 := F.cell 0
  have Fc1 := F.cell 1
  have Fc2 := F.cell 2
  simp at Fc0 Fc1 Fc2
  have Fl := F.lt
  go_wp2_with fail
  refine (HV.out _).mono ?_
  rintro e' w1 ⟨rfl, hb1⟩
  replace X := X.keep hb1
  replace F := F.keep hb1
  replace E := E.keep hb1
  replace hL := hL.below hb1
  have hB1 := hB0.trans (hb1.mono hB0.size)
  clear Xc0 Xl Fc0 Fc1 Fc2 Fl
  clear hb1 hB0
  have Xc0 := X.cell 0
  simp at Xc0
  have Xl := X.lt
  go_wp2_with (go_at_call 78; refine (rwithin_any _ _ _ _).mono ?_; rintro e w' ⟨rfl, rfl⟩)
  refine (HC.out _ hL).mono ?_
  rintro e' w2 ⟨rfl, hb2⟩
  replace X := X.keep hb2
  replace F := F.keep hb2
  replace E := E.keep hb2
  replace hL := hL.below hb2
  have hB2 := hB1.trans (hb2.mono hB1.size)
  clear Xc0 Xl
  clear hb2 hB1
  by_cases hre : re = 0
  · subst hre
    have hR2 := HR.out
    rw [if_pos rfl, ← HT.out rfl] at hR2
    subst hR2
    have Fc0 := F.cell 0
    have Fc1 := F.cell 1
    have Fc2 := F.cell 2
    simp at Fc0 Fc1 Fc2
    have Fl := F.lt
    go_wp2_with fail
    refine (HD.out _).mono ?_
    rintro e' w3 ⟨rfl, hb3⟩
    have R1 : Bk w3 w2.heap.size 42 #[.int .i64 rn, .int .i64 rd] := (bk_last rfl).keep hb3
    replace X := (X.alloc _).keep hb3
    replace F := (F.alloc _).keep hb3
    replace E := (E.alloc _).keep hb3
    replace hL := (hL.alloc _).below hb3
    have hB3 : Below w.heap.size w w3 := (hB2.alloc hB2.size _).trans (hb3.mono (by have := hB2.size; simp; omega))
    clear Fc0 Fc1 Fc2 Fl
    clear hb3 hB2
    have R1c0 := R1.cell 0
    have R1c1 := R1.cell 1
    simp at R1c0 R1c1
    have R1l := R1.lt
    go_wp2_with fail
    refine (rtimes_any _ _ _ _ _).mono ?_
    rintro e' w4 ⟨rfl, hb4⟩
    have R2 : Bk w4 w3.heap.size 42 #[.int .i64 xn, .int .i64 xd] := (bk_last rfl).keep hb4
    replace X := (X.alloc _).keep hb4
    replace F := (F.alloc _).keep hb4
    replace E := (E.alloc _).keep hb4
    replace R1 := (R1.alloc _).keep hb4
    replace hL := (hL.alloc _).below hb4
    have hB4 : Below w.heap.size w w4 := (hB3.alloc hB3.size _).trans (hb4.mono (by have := hB3.size; simp; omega))
    clear R1c0 R1c1 R1l
    clear hb4 hB3
    have Ec0 := E.cell 0
    have Ec1 := E.cell 1
    simp at Ec0 Ec1
    have El := E.lt
    have Ef0 := E.fz 0
    have Ef1 := E.fz 1
    go_wp2_with fail
    refine bodyPost_ret (v := (timesR xn xd rd rn).val) (by simp [results, Try.results43, go_sem, Ec0, Ec1]) rfl ⟨rfl, (hB4.setCell (by simp <;> omega) _).setCell (by simp <;> omega) _⟩
  · have hR2 := HR.out
    rw [if_neg hre] at hR2
    subst hR2
    have hr1 : ((re : Int) == 0) = false := by simp; omega
    have Ec0 := E.cell 0
    have Ec1 := E.cell 1
    simp at Ec0 Ec1
    have El := E.lt
    have Ef0 := E.fz 0
    have Ef1 := E.fz 1
    go_wp2_with fail
    refine bodyPost_ret (v := (⟨0, 0, re⟩ : Res).val) (by simp [results, Try.results43, go_sem, Ec0, Ec1, El]) rfl ⟨rfl, ((hB2.setCell (by simp <;> omega) _).setCell (by simp <;> omega) _).alloc (by simpa using hB2.size) _⟩

set_option maxRecDepth 100000 in
set_option maxHeartbeats 4000000 in
theorem rtime_any (A : Option Addr) (c : Nat) (h d k n : Int) (L : List Mesh) (w : World) (hL : RowAt w A (meshCells L)) (hn : L.length ≤ 9223372036854775807) :
    Calls Try.prog 43 #[.agg #[.slice A L.length c], .agg #[.int .i64 h, .int .i64 d, .int .i64 k], .int .i64 n] w fun e w' => e = .returned (timeR L h d k n).val ∧ Below w.heap.size w w' := by
  by_cases hok : okTrain L = true
  · by_cases hf : okFeed h d k = true
    · by_cases hk : inB n 0 1000000 = true
      · have hb := okFeed_bounds hf
        have hk' := hk
        simp only [inB, decide_eq_true_eq] at hk'
        obtain ⟨h, rfl⟩ := Int.eq_ofNat_of_zero_le hb.1
        obtain ⟨d, rfl⟩ := Int.eq_ofNat_of_zero_le (show 0 ≤ d by omega)
        obtain ⟨k, rfl⟩ := Int.eq_ofNat_of_zero_le (show 0 ≤ k by omega)
        obtain ⟨n, rfl⟩ := Int.eq_ofNat_of_zero_le hk'.1
        exact rtime_ok A c h d k n L _ w hL hn hok hf (by omega) rfl
      · have hR : timeR L h d k n = ⟨0, 0, 1⟩ := by rw [timeR, if_pos hok, if_pos hf, if_neg hk]
        have hk' : inB n 0 1000000 = false := by simpa using hk
        rw [hR]
        clear hR
        go_enter Try.func43, Try.ntmps43
        go_wp2_with fail
        refine (rvalidTrain_any _ _ _ _ (((hL.alloc _).alloc _).alloc _) hn).mono ?_
        rintro e' w0 ⟨rfl, hb0⟩
        have X : Bk w0 w.heap.size 24 #[.slice A L.length c] := (((bk_last rfl).alloc _).alloc _).keep hb0
        have F : Bk w0 (w.heap.size + 1) 57 #[.int .i64 h, .int .i64 d, .int .i64 k] := ((bk_last (by simp)).alloc _).keep hb0
        have E : Bk w0 (w.heap.size + 1 + 1) 42 #[.int .i64 0, .int .i64 0] := (bk_last (by simp)).keep hb0
        replace hL := (((hL.alloc _).alloc _).alloc _).below hb0
        have hB0 : Below w.heap.size w w0 := ((((Below.refl w.heap.size w).alloc (Nat.le_refl _) _).alloc (by simp <;> omega) _).alloc (by simp <;> omega) _).trans (hb0.mono (by simp <;> omega))
        clear hb0
        rw [hok]
        have Xc0 := X.cell 0
        simp at Xc0
        have Xl := X.lt
        have Fc0 := F.cell 0
        have Fc1 := F.cell 1
        have Fc2 := F.cell 2
        simp at Fc0 Fc1 Fc2
        have Fl := F.lt
        go_wp2_with fail
        refine (rvalidFeed_any _ _ _ _).mono ?_
        rintro e' w1 ⟨rfl, hb1⟩
        replace X := X.keep hb1
        replace F := F.keep hb1
        replace E := E.keep hb1
        replace hL := hL.below hb1
        have hB1 := hB0.trans (hb1.mono hB0.size)
        rw [hf]
        clear Xc0 Xl Fc0 Fc1 Fc2 Fl
        clear hb1 hB0
        have Xc0 := X.cell 0
        simp at Xc0
        have Xl := X.lt
        have Fc0 := F.cell 0
        have Fc1 := F.cell 1
        have Fc2 := F.cell 2
        simp at Fc0 Fc1 Fc2
        have Fl := F.lt
        have Ec0 := E.cell 0
        have Ec1 := E.cell 1
        simp at Ec0 Ec1
        have El := E.lt
        have Ef0 := E.fz 0
        have Ef1 := E.fz 1
        go_wp2_with (go_at_call 78; refine (rwithin_any _ _ _ _).mono ?_; rintro e w' ⟨rfl, rfl⟩)
        refine bodyPost_ret (v := (⟨0, 0, 1⟩ : Res).val) (by simp [results, Try.results43, go_sem, Ec0, Ec1]) rfl ⟨rfl, (hB1.setCell (by simp <;> omega) _).setCell (by simp <;> omega) _⟩
    · have hR : timeR L h d k n = ⟨0, 0, 33⟩ := by rw [timeR, if_pos hok, if_neg hf]
      have hf' : okFeed h d k = false := by simpa using hf
      rw [hR]
      clear hR
      go_enter Try.func43, Try.ntmps43
      go_wp2_with fail
      refine (rvalidTrain_any _ _ _ _ (((hL.alloc _).alloc _).alloc _) hn).mono ?_
      rintro e' w0 ⟨rfl, hb0⟩
      have X : Bk w0 w.heap.size 24 #[.slice A L.length c] := (((bk_last rfl).alloc _).alloc _).keep hb0
      have F : Bk w0 (w.heap.size + 1) 57 #[.int .i64 h, .int .i64 d, .int .i64 k] := ((bk_last (by simp)).alloc _).keep hb0
      have E : Bk w0 (w.heap.size + 1 + 1) 42 #[.int .i64 0, .int .i64 0] := (bk_last (by simp)).keep hb0
      replace hL := (((hL.alloc _).alloc _).alloc _).below hb0
      have hB0 : Below w.heap.size w w0 := ((((Below.refl w.heap.size w).alloc (Nat.le_refl _) _).alloc (by simp <;> omega) _).alloc (by simp <;> omega) _).trans (hb0.mono (by simp <;> omega))
      clear hb0
      rw [hok]
      have Xc0 := X.cell 0
      simp at Xc0
      have Xl := X.lt
      have Fc0 := F.cell 0
      have Fc1 := F.cell 1
      have Fc2 := F.cell 2
      simp at Fc0 Fc1 Fc2
      have Fl := F.lt
      go_wp2_with fail
      refine (rvalidFeed_any _ _ _ _).mono ?_
      rintro e' w1 ⟨rfl, hb1⟩
      replace X := X.keep hb1
      replace F := F.keep hb1
      replace E := E.keep hb1
      replace hL := hL.below hb1
      have hB1 := hB0.trans (hb1.mono hB0.size)
      rw [hf']
      clear Xc0 Xl Fc0 Fc1 Fc2 Fl
      clear hb1 hB0
      have Xc0 := X.cell 0
      simp at Xc0
      have Xl := X.lt
      have Fc0 := F.cell 0
      have Fc1 := F.cell 1
      have Fc2 := F.cell 2
      simp at Fc0 Fc1 Fc2
      have Fl := F.lt
      have Ec0 := E.cell 0
      have Ec1 := E.cell 1
      simp at Ec0 Ec1
      have El := E.lt
      have Ef0 := E.fz 0
      have Ef1 := E.fz 1
      go_wp2_with (go_at_call 78; refine (rwithin_any _ _ _ _).mono ?_; rintro e w' ⟨rfl, rfl⟩)
      refine bodyPost_ret (v := (⟨0, 0, 33⟩ : Res).val) (by simp [results, Try.results43, go_sem, Ec0, Ec1]) rfl ⟨rfl, (hB1.setCell (by simp <;> omega) _).setCell (by simp <;> omega) _⟩
  · have hR : timeR L h d k n = ⟨0, 0, 70⟩ := by rw [timeR, if_neg hok]
    have hok' : okTrain L = false := by simpa using hok
    rw [hR]
    clear hR
    go_enter Try.func43, Try.ntmps43
    go_wp2_with fail
    refine (rvalidTrain_any _ _ _ _ (((hL.alloc _).alloc _).alloc _) hn).mono ?_
    rintro e' w0 ⟨rfl, hb0⟩
    have X : Bk w0 w.heap.size 24 #[.slice A L.length c] := (((bk_last rfl).alloc _).alloc _).keep hb0
    have F : Bk w0 (w.heap.size + 1) 57 #[.int .i64 h, .int .i64 d, .int .i64 k] := ((bk_last (by simp)).alloc _).keep hb0
    have E : Bk w0 (w.heap.size + 1 + 1) 42 #[.int .i64 0, .int .i64 0] := (bk_last (by simp)).keep hb0
    replace hL := (((hL.alloc _).alloc _).alloc _).below hb0
    have hB0 : Below w.heap.size w w0 := ((((Below.refl w.heap.size w).alloc (Nat.le_refl _) _).alloc (by simp <;> omega) _).alloc (by simp <;> omega) _).trans (hb0.mono (by simp <;> omega))
    clear hb0
    rw [hok']
    have Xc0 := X.cell 0
    simp at Xc0
    have Xl := X.lt
    have Fc0 := F.cell 0
    have Fc1 := F.cell 1
    have Fc2 := F.cell 2
    simp at Fc0 Fc1 Fc2
    have Fl := F.lt
    have Ec0 := E.cell 0
    have Ec1 := E.cell 1
    simp at Ec0 Ec1
    have El := E.lt
    have Ef0 := E.fz 0
    have Ef1 := E.fz 1
    go_wp2_with (go_at_call 78; refine (rwithin_any _ _ _ _).mono ?_; rintro e w' ⟨rfl, rfl⟩)
    refine bodyPost_ret (v := (⟨0, 0, 70⟩ : Res).val) (by simp [results, Try.results43, go_sem, Ec0, Ec1]) rfl ⟨rfl, (hB0.setCell (by simp <;> omega) _).setCell (by simp <;> omega) _⟩

end Go.Proofs.Ytheifigkclegdaa
