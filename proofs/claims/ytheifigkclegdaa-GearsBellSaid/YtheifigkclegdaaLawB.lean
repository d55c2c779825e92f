/-
  What is proved: the walk of GearsBell.
-/
import Derived.Test.YtheifigkclegdaaShort
import Derived.Test.YtheifigkclegdaaJoinM
import Derived.Test.YtheifigkclegdaaDrawn
namespace Go.Proofs.Ytheifigkclegdaa
open Go.RowKit
attribute [local go_sem] Res.val

/-- When the bell rings. -/
def ringN (m h d : Nat) : Nat := if h < m then 0 else (h - m) / d + 1

theorem rings_nat (m h d : Nat) (k : Int) (hf : okFeed h d k = true) (hm : 1 ≤ m) : ringsR m h d k = (((ringN m h d : Nat) : Int), 0) := by
  unfold ringsR ringN
  rw [if_pos hf, if_neg (by omega)]
  by_cases hlt : h < m
  · rw [if_pos (by omega), if_pos hlt]
    rfl
  · rw [if_neg (by omega), if_neg hlt]
    have e : (h : Int) - m = ((h - m : Nat) : Int) := by omega
    rw [e, ← Int.natCast_ediv]
    simp

theorem ring_facts (m h d : Nat) (hm : 1 ≤ m) (hh : h ≤ 1000000) (hd : 1 ≤ d) :
    ringN m h d ≤ 1000000 ∧ h - ringN m h d * d < m ∧ (0 < ringN m h d → m ≤ h - (ringN m h d - 1) * d) ∧ ringN (m + 1) h d ≤ ringN m h d := by
  unfold ringN
  by_cases hlt : h < m
  · rw [if_pos hlt, if_pos (by omega)]
    refine ⟨by omega, by omega, fun h => absurd h (by omega), by omega⟩
  · rw [if_neg hlt]
    have hq := Nat.div_add_mod (h - m) d
    have hr := Nat.mod_lt (h - m) (show d > 0 by omega)
    have hle : (h - m) / d ≤ h - m := Nat.div_le_self _ _
    have hmono : (h - (m + 1)) / d ≤ (h - m) / d := Nat.div_le_div_right (by omega)
    have e : ((h - m) / d + 1) * d = d * ((h - m) / d) + d := by rw [Nat.add_mul, Nat.one_mul, Nat.mul_comm]
    have e2 : (h - m) / d * d = d * ((h - m) / d) := Nat.mul_comm _ _
    generalize (h - m) / d = q at *
    generalize (h - (m + 1)) / d = q' at *
    generalize (h - m) % d = s at *
    refine ⟨by omega, ?_, fun _ => ?_, ?_⟩
    · rw [e]
      generalize d * q = p at *
      omega
    · rw [Nat.add_sub_cancel, e2]
      generalize d * q = p at *
      omega
    · split <;> omega

theorem time_turn {L : List Mesh} {h d k : Nat} (hf : okFeed h d k = true) :
    (timeR L h d k k).err = (ratioR L).err ∧ ((timeR L h d k k).err = 0 → timesR (timeR L h d k k).num (timeR L h d k k).den (ratioR L).num (ratioR L).den = ⟨1, 1, 0⟩) := by
  have hb := okFeed_bounds hf
  have hk : inB (k : Int) 0 1000000 = true := by simp [inB]; omega
  rcases ratio_err L with ⟨he, hok⟩ | ⟨he, hok⟩ | ⟨he, hok⟩
  · have hfit := ratio_fit hok he
    have hr := ratio_okr hok he
    have hT : timeR L h d k k = ⟨(ratioR L).den, (ratioR L).num, 0⟩ := by
      rw [timeR, if_pos hok, if_pos hf, if_pos hk, if_pos he]
      simp only [Int.toNat_natCast]
      have hg := okRatio_bounds hr
      rw [low_eq (k * (ratioR L).den) (k * (ratioR L).num) (ratioR L).den (ratioR L).num (one_mul_one (by omega) hfit.1) hfit.1 (by ac_rfl) (by rw [Nat.gcd_comm]; simpa using hg.2.2.2.2)]
      rw [if_pos ⟨hfit.2.2.2, hfit.2.1⟩]
    rw [hT]
    refine ⟨he.symm, fun _ => ?_⟩
    have h := times_back hok he
    rw [ratio_back hok he] at h
    rw [times_comm]
    exact h
  · have hT : timeR L h d k k = ⟨0, 0, 2⟩ := by rw [timeR, if_pos hok, if_pos hf, if_pos hk, if_neg (by omega), he]
    rw [hT, he]
    exact ⟨rfl, fun h => by simp at h⟩
  · have hT : timeR L h d k k = ⟨0, 0, 70⟩ := by rw [timeR, if_neg (by simp [hok])]
    rw [hT, he]
    exact ⟨rfl, fun h => by simp at h⟩

set_option maxRecDepth 100000 in
set_option maxHeartbeats 16000000 in
theorem bell_core (A : Option Addr) (c : Nat) (L : List Mesh) (h d k m u1 l1 u2 l2 : Int) (n n' : Nat) (x r : Res) (w : World) (hrow : RowAt w A (meshCells L)) (hs : L.length ≤ 100) (hm : 1 ≤ m) (hl1 : l1 < m) (hl2 : 0 < n → m ≤ l2) (hn' : n' ≤ n) (hn : n ≤ 1000000) (hx : x.err = r.err)
    (h1 : Hid (Ret 40 #[.agg #[.int .i64 m], .agg #[.int .i64 h, .int .i64 d, .int .i64 k]] (pairV (n, 0)))) (h2 : Hid (Ret 50 #[.agg #[.int .i64 h, .int .i64 d, .int .i64 k], .int .i64 n] (.tuple #[.int .i64 u1, .int .i64 l1, .int .i64 0])))
    (h3 : Hid (0 < n → Ret 50 #[.agg #[.int .i64 h, .int .i64 d, .int .i64 k], .int .i64 ((n : Int) - 1)] (.tuple #[.int .i64 u2, .int .i64 l2, .int .i64 0]))) (h4 : Hid (m < 1000000 → Ret 40 #[.agg #[.int .i64 (m + 1)], .agg #[.int .i64 h, .int .i64 d, .int .i64 k]] (pairV (n', 0))))
    (h5 : Hid (RetR A L 42 #[.agg #[.slice A L.length c], .agg #[.int .i64 h, .int .i64 d, .int .i64 k], .int .i64 k] x.val)) (h6 : Hid (RetR A L 25 #[.agg #[.slice A L.length c]] r.val)) (h7 : Hid (x.err = 0 → Ret 35 #[.agg #[.int .i64 x.num, .int .i64 x.den], .agg #[.int .i64 r.num, .int .i64 r.den]] (⟨1, 1, 0⟩ : Res).val)) :
    Calls Try.prog 13 #[.agg #[.slice A L.length c], .agg #[.int .i64 m], .agg #[.int .i64 h, .int .i64 d, .int .i64 k]] w fun e w' => e = .returned (.bool true) ∧ Below w.heap.size w w' := by
  have E42 := eq42
  obtain ⟨xn, xd, xe⟩ := x
  obtain ⟨rn, rd, re⟩ := r
  simp only at h7 hx
  subst hx
  go_enter Try.func13, Try.ntmps13
  go_wp2_with fail
  refine (awake_any _).mono ?_
  rintro e' w0 ⟨rfl, hb0⟩
  have X : Bk w0 w.heap.size 24 #[.slice A L.length c] := (((bk_last rfl).alloc _).alloc _).keep hb0
  have B : Bk w0 (w.heap.size + 1) 59 #[.int .i64 m] := ((bk_last (by simp)).alloc _).keep hb0
  have F : Bk w0 (w.heap.size + 1 + 1) 57 #[.int .i64 h, .int .i64 d, .int .i64 k] := (bk_last (by simp)).keep hb0
  replace hrow := (((hrow.alloc _).alloc _).alloc _).below hb0
  have hB0 : Below w.heap.size w w0 := ((((Below.refl w.heap.size w).alloc (Nat.le_refl _) _).alloc (by simp <;> omega) _).alloc (by simp <;> omega) _).trans (hb0.mono (by simp <;> omega))
  clear hb0
  have Xc0 := X.cell 0
  simp at Xc0
  have Xl := X.lt
  go_wp2_with fail
  refine (short_true A L.length c _ hs).mono ?_
  rintro e' w1 ⟨rfl, hb1⟩
  replace X := X.keep hb1
  replace B := B.keep hb1
  replace F := F.keep hb1
  replace hrow := hrow.below hb1
  have hB1 := hB0.trans (hb1.mono hB0.size)
  clear Xc0 Xl
  clear hb1 hB0
  have Bc0 := B.cell 0
  simp at Bc0
  have Bl := B.lt
  have Fc0 := F.cell 0
  have Fc1 := F.cell 1
  have Fc2 := F.cell 2
  simp at Fc0 Fc1 Fc2
  have Fl := F.lt
  go_wp2_with fail
  refine (h1.out _).mono ?_
  rintro e' w2 ⟨rfl, hb2⟩
  replace X := X.keep hb2
  replace B := B.keep hb2
  replace F := F.keep hb2
  replace hrow := hrow.below hb2
  have hB2 := hB1.trans (hb2.mono hB1.size)
  clear Bc0 Bl Fc0 Fc1 Fc2 Fl
  clear hb2 hB1
  unfold pairV
  have hn0 : ¬ ((n : Int) < 0) := by omega
  have Fc0 := F.cell 0
  have Fc1 := F.cell 1
  have Fc2 := F.cell 2
  simp at Fc0 Fc1 Fc2
  have Fl := F.lt
  go_wp2_with fail
  refine (h2.out _).mono ?_
  rintro e' w3 ⟨rfl, hb3⟩
  replace X := X.keep hb3
  replace B := B.keep hb3
  replace F := F.keep hb3
  replace hrow := hrow.below hb3
  have hB3 := hB2.trans (hb3.mono hB2.size)
  clear Fc0 Fc1 Fc2 Fl
  clear hb3 hB2
  by_cases hpos : 0 < n
  · have hk3 := Lib.hid (h3.out hpos)
    have hl2 := hl2 hpos
    have hp1 : (0 : Int) < n := by omega
    have hq1 : ¬ (l2 < m) := by omega
    have Bc0 := B.cell 0
    simp at Bc0
    have Bl := B.lt
    have Fc0 := F.cell 0
    have Fc1 := F.cell 1
    have Fc2 := F.cell 2
    simp at Fc0 Fc1 Fc2
    have Fl := F.lt
    go_wp2_with fail
    refine (hk3.out _).mono ?_
    rintro e' w4 ⟨rfl, hb4⟩
    replace X := X.keep hb4
    replace B := B.keep hb4
    replace F := F.keep hb4
    replace hrow := hrow.below hb4
    have hB4 := hB3.trans (hb4.mono hB3.size)
    clear Bc0 Bl Fc0 Fc1 Fc2 Fl
    clear hb4 hB3
    have Bc0 := B.cell 0
    simp at Bc0
    have Bl := B.lt
    clear Bc0 Bl
    by_cases hm2 : m < 1000000
    · have hk4 := Lib.hid (h4.out hm2)
      have hd2 : decide (m < 1000000) = true := by simpa using hm2
      have hgt : ¬ ((n : Int) < (n' : Int)) := by omega
      have Bc0 := B.cell 0
      simp at Bc0
      have Bl := B.lt
      have Fc0 := F.cell 0
      have Fc1 := F.cell 1
      have Fc2 := F.cell 2
      simp at Fc0 Fc1 Fc2
      have Fl := F.lt
      go_wp2_with fail
      refine (hk4.out _).mono ?_
      rintro e' w5 ⟨rfl, hb5⟩
      replace X := X.keep hb5
      replace B := B.keep hb5
      replace F := F.keep hb5
      replace hrow := hrow.below hb5
      have hB5 := hB4.trans (hb5.mono hB4.size)
      clear Bc0 Bl Fc0 Fc1 Fc2 Fl
      clear hb5 hB4
      unfold pairV
      have Xc0 := X.cell 0
      simp at Xc0
      have Xl := X.lt
      have Fc0 := F.cell 0
      have Fc1 := F.cell 1
      have Fc2 := F.cell 2
      simp at Fc0 Fc1 Fc2
      have Fl := F.lt
      go_wp2_with fail
      refine (h5.out _ hrow).mono ?_
      rintro e' w6 ⟨rfl, hb6⟩
      replace X := X.keep hb6
      replace B := B.keep hb6
      replace F := F.keep hb6
      replace hrow := hrow.below hb6
      have hB6 := hB5.trans (hb6.mono hB5.size)
      clear Xc0 Xl Fc0 Fc1 Fc2 Fl
      clear hb6 hB5
      have Xc0 := X.cell 0
      simp at Xc0
      have Xl := X.lt
      go_wp2_with fail
      refine (h6.out _ (hrow.alloc _)).mono ?_
      rintro e' w7 ⟨rfl, hb7⟩
      have R1 : Bk w7 w6.heap.size 42 #[.int .i64 xn, .int .i64 xd] := (bk_last rfl).keep hb7
      replace X := (X.alloc _).keep hb7
      replace B := (B.alloc _).keep hb7
      replace F := (F.alloc _).keep hb7
      replace hrow := (hrow.alloc _).below hb7
      have hB7 : Below w.heap.size w w7 := (hB6.alloc hB6.size _).trans (hb7.mono (by have := hB6.size; simp; omega))
      clear Xc0 Xl
      clear hb7 hB6
      by_cases hxe : xe = 0
      · have hk := Lib.hid (h7.out hxe)
        subst hxe
        have R1c0 := R1.cell 0
        have R1c1 := R1.cell 1
        simp at R1c0 R1c1
        have R1l := R1.lt
        go_wp2_with fail
        refine (hk.out _).mono ?_
        rintro e' w8 ⟨rfl, hb8⟩
        have R2 : Bk w8 w7.heap.size 42 #[.int .i64 rn, .int .i64 rd] := (bk_last rfl).keep hb8
        replace X := (X.alloc _).keep hb8
        replace B := (B.alloc _).keep hb8
        replace F := (F.alloc _).keep hb8
        replace R1 := (R1.alloc _).keep hb8
        replace hrow := (hrow.alloc _).below hb8
        have hB8 : Below w.heap.size w w8 := (hB7.alloc hB7.size _).trans (hb8.mono (by have := hB7.size; simp; omega))
        clear R1c0 R1c1 R1l
        clear hb8 hB7
        go_wp2_with fail
        go_ret
        exact ⟨rfl, hB8.alloc hB8.size _⟩
      · have hxe' : ((xe : Int) == 0) = false := by simp; omega
        go_wp2_with fail
        go_ret
        exact ⟨rfl, hB7.alloc hB7.size _⟩
    · have hd2 : decide (m < 1000000) = false := by simpa using hm2
      have Bc0 := B.cell 0
      simp at Bc0
      have Bl := B.lt
      have Xc0 := X.cell 0
      simp at Xc0
      have Xl := X.lt
      have Fc0 := F.cell 0
      have Fc1 := F.cell 1
      have Fc2 := F.cell 2
      simp at Fc0 Fc1 Fc2
      have Fl := F.lt
      go_wp2_with fail
      refine (h5.out _ hrow).mono ?_
      rintro e' w5 ⟨rfl, hb5⟩
      replace X := X.keep hb5
      replace B := B.keep hb5
      replace F := F.keep hb5
      replace hrow := hrow.below hb5
      have hB5 := hB4.trans (hb5.mono hB4.size)
      clear Xc0 Xl Fc0 Fc1 Fc2 Fl
      clear hb5 hB4
      clear Bc0 Bl
      have Xc0 := X.cell 0
      simp at Xc0
      have Xl := X.lt
      go_wp2_with fail
      refine (h6.out _ (hrow.alloc _)).mono ?_
      rintro e' w6 ⟨rfl, hb6⟩
      have R1 : Bk w6 w5.heap.size 42 #[.int .i64 xn, .int .i64 xd] := (bk_last rfl).keep hb6
      replace X := (X.alloc _).keep hb6
      replace B := (B.alloc _).keep hb6
      replace F := (F.alloc _).keep hb6
      replace hrow := (hrow.alloc _).below hb6
      have hB6 : Below w.heap.size w w6 := (hB5.alloc hB5.size _).trans (hb6.mono (by have := hB5.size; simp; omega))
      clear Xc0 Xl
      clear hb6 hB5
      by_cases hxe : xe = 0
      · have hk := Lib.hid (h7.out hxe)
        subst hxe
        have R1c0 := R1.cell 0
        have R1c1 := R1.cell 1
        simp at R1c0 R1c1
        have R1l := R1.lt
        go_wp2_with fail
        refine (hk.out _).mono ?_
        rintro e' w7 ⟨rfl, hb7⟩
        have R2 : Bk w7 w6.heap.size 42 #[.int .i64 rn, .int .i64 rd] := (bk_last rfl).keep hb7
        replace X := (X.alloc _).keep hb7
        replace B := (B.alloc _).keep hb7
        replace F := (F.alloc _).keep hb7
        replace R1 := (R1.alloc _).keep hb7
        replace hrow := (hrow.alloc _).below hb7
        have hB7 : Below w.heap.size w w7 := (hB6.alloc hB6.size _).trans (hb7.mono (by have := hB6.size; simp; omega))
        clear R1c0 R1c1 R1l
        clear hb7 hB6
        go_wp2_with fail
        go_ret
        exact ⟨rfl, hB7.alloc hB7.size _⟩
      · have hxe' : ((xe : Int) == 0) = false := by simp; omega
        go_wp2_with fail
        go_ret
        exact ⟨rfl, hB6.alloc hB6.size _⟩
  · have hp1 : ¬ ((0 : Int) < (n : Int)) := by omega
    by_cases hm2 : m < 1000000
    · have hk4 := Lib.hid (h4.out hm2)
      have hd2 : decide (m < 1000000) = true := by simpa using hm2
      have hgt : ¬ ((n : Int) < (n' : Int)) := by omega
      have Bc0 := B.cell 0
      simp at Bc0
      have Bl := B.lt
      have Fc0 := F.cell 0
      have Fc1 := F.cell 1
      have Fc2 := F.cell 2
      simp at Fc0 Fc1 Fc2
      have Fl := F.lt
      go_wp2_with fail
      refine (hk4.out _).mono ?_
      rintro e' w4 ⟨rfl, hb4⟩
      replace X := X.keep hb4
      replace B := B.keep hb4
      replace F := F.keep hb4
      replace hrow := hrow.below hb4
      have hB4 := hB3.trans (hb4.mono hB3.size)
      clear Bc0 Bl Fc0 Fc1 Fc2 Fl
      clear hb4 hB3
      unfold pairV
      have Xc0 := X.cell 0
      simp at Xc0
      have Xl := X.lt
      have Fc0 := F.cell 0
      have Fc1 := F.cell 1
      have Fc2 := F.cell 2
      simp at Fc0 Fc1 Fc2
      have Fl := F.lt
      go_wp2_with fail
      refine (h5.out _ hrow).mono ?_
      rintro e' w5 ⟨rfl, hb5⟩
      replace X := X.keep hb5
      replace B := B.keep hb5
      replace F := F.keep hb5
      replace hrow := hrow.below hb5
      have hB5 := hB4.trans (hb5.mono hB4.size)
      clear Xc0 Xl Fc0 Fc1 Fc2 Fl
      clear hb5 hB4
      have Xc0 := X.cell 0
      simp at Xc0
      have Xl := X.lt
      go_wp2_with fail
      refine (h6.out _ (hrow.alloc _)).mono ?_
      rintro e' w6 ⟨rfl, hb6⟩
      have R1 : Bk w6 w5.heap.size 42 #[.int .i64 xn, .int .i64 xd] := (bk_last rfl).keep hb6
      replace X := (X.alloc _).keep hb6
      replace B := (B.alloc _).keep hb6
      replace F := (F.alloc _).keep hb6
      replace hrow := (hrow.alloc _).below hb6
      have hB6 : Below w.heap.size w w6 := (hB5.alloc hB5.size _).trans (hb6.mono (by have := hB5.size; simp; omega))
      clear Xc0 Xl
      clear hb6 hB5
      by_cases hxe : xe = 0
      · have hk := Lib.hid (h7.out hxe)
        subst hxe
        have R1c0 := R1.cell 0
        have R1c1 := R1.cell 1
        simp at R1c0 R1c1
        have R1l := R1.lt
        go_wp2_with fail
        refine (hk.out _).mono ?_
        rintro e' w7 ⟨rfl, hb7⟩
        have R2 : Bk w7 w6.heap.size 42 #[.int .i64 rn, .int .i64 rd] := (bk_last rfl).keep hb7
        replace X := (X.alloc _).keep hb7
        replace B := (B.alloc _).keep hb7
        replace F := (F.alloc _).keep hb7
        replace R1 := (R1.alloc _).keep hb7
        replace hrow := (hrow.alloc _).below hb7
        have hB7 : Below w.heap.size w w7 := (hB6.alloc hB6.size _).trans (hb7.mono (by have := hB6.size; simp; omega))
        clear R1c0 R1c1 R1l
        clear hb7 hB6
        go_wp2_with fail
        go_ret
        exact ⟨rfl, hB7.alloc hB7.size _⟩
      · have hxe' : ((xe : Int) == 0) = false := by simp; omega
        go_wp2_with fail
        go_ret
        exact ⟨rfl, hB6.alloc hB6.size _⟩
    · have hd2 : decide (m < 1000000) = false := by simpa using hm2
      have Bc0 := B.cell 0
      simp at Bc0
      have Bl := B.lt
      have Xc0 := X.cell 0
      simp at Xc0
      have Xl := X.lt
      have Fc0 := F.cell 0
      have Fc1 := F.cell 1
      have Fc2 := F.cell 2
      simp at Fc0 Fc1 Fc2
      have Fl := F.lt
      go_wp2_with fail
      refine (h5.out _ hrow).mono ?_
      rintro e' w4 ⟨rfl, hb4⟩
      replace X := X.keep hb4
      replace B := B.keep hb4
      replace F := F.keep hb4
      replace hrow := hrow.below hb4
      have hB4 := hB3.trans (hb4.mono hB3.size)
      clear Xc0 Xl Fc0 Fc1 Fc2 Fl
      clear hb4 hB3
      clear Bc0 Bl
      have Xc0 := X.cell 0
      simp at Xc0
      have Xl := X.lt
      go_wp2_with fail
      refine (h6.out _ (hrow.alloc _)).mono ?_
      rintro e' w5 ⟨rfl, hb5⟩
      have R1 : Bk w5 w4.heap.size 42 #[.int .i64 xn, .int .i64 xd] := (bk_last rfl).keep hb5
      replace X := (X.alloc _).keep hb5
      replace B := (B.alloc _).keep hb5
      replace F := (F.alloc _).keep hb5
      replace hrow := (hrow.alloc _).below hb5
      have hB5 : Below w.heap.size w w5 := (hB4.alloc hB4.size _).trans (hb5.mono (by have := hB4.size; simp; omega))
      clear Xc0 Xl
      clear hb5 hB4
      by_cases hxe : xe = 0
      · have hk := Lib.hid (h7.out hxe)
        subst hxe
        have R1c0 := R1.cell 0
        have R1c1 := R1.cell 1
        simp at R1c0 R1c1
        have R1l := R1.lt
        go_wp2_with fail
        refine (hk.out _).mono ?_
        rintro e' w6 ⟨rfl, hb6⟩
        have R2 : Bk w6 w5.heap.size 42 #[.int .i64 rn, .int .i64 rd] := (bk_last rfl).keep hb6
        replace X := (X.alloc _).keep hb6
        replace B := (B.alloc _).keep hb6
        replace F := (F.alloc _).keep hb6
        replace R1 := (R1.alloc _).keep hb6
        replace hrow := (hrow.alloc _).below hb6
        have hB6 : Below w.heap.size w w6 := (hB5.alloc hB5.size _).trans (hb6.mono (by have := hB5.size; simp; omega))
        clear R1c0 R1c1 R1l
        clear hb6 hB5
        go_wp2_with fail
        go_ret
        exact ⟨rfl, hB6.alloc hB6.size _⟩
      · have hxe' : ((xe : Int) == 0) = false := by simp; omega
        go_wp2_with fail
        go_ret
        exact ⟨rfl, hB5.alloc hB5.size _⟩

set_option maxRecDepth 100000 in
set_option maxHeartbeats 4000000 in
theorem bell_stop (A : Option Addr) (c : Nat) (L : List Mesh) (h d k m n e : Int) (v : Bool) (w : World) (hrow : RowAt w A (meshCells L)) (hs : L.length ≤ 100) (he : (e = 33 ∧ v = false) ∨ (e = 72 ∧ v = true ∧ m < 1))
    (h1 : Hid (Ret 40 #[.agg #[.int .i64 m], .agg #[.int .i64 h, .int .i64 d, .int .i64 k]] (pairV (n, e)))) (h9 : Hid (Ret 49 #[.agg #[.int .i64 h, .int .i64 d, .int .i64 k]] (.bool v))) :
    Calls Try.prog 13 #[.agg #[.slice A L.length c], .agg #[.int .i64 m], .agg #[.int .i64 h, .int .i64 d, .int .i64 k]] w fun e w' => e = .returned (.bool true) ∧ Below w.heap.size w w' := by
  go_enter Try.func13, Try.ntmps13
  go_wp2_with fail
  refine (awake_any _).mono ?_
  rintro e' w0 ⟨rfl, hb0⟩
  have X : Bk w0 w.heap.size 24 #[.slice A L.length c] := (((bk_last rfl).alloc _).alloc _).keep hb0
  have B : Bk w0 (w.heap.size + 1) 59 #[.int .i64 m] := ((bk_last (by simp)).alloc _).keep hb0
  have F : Bk w0 (w.heap.size + 1 + 1) 57 #[.int .i64 h, .int .i64 d, .int .i64 k] := (bk_last (by simp)).keep hb0
  replace hrow := (((hrow.alloc _).alloc _).alloc _).below hb0
  have hB0 : Below w.heap.size w w0 := ((((Below.refl w.heap.size w).alloc (Nat.le_refl _) _).alloc (by simp <;> omega) _).alloc (by simp <;> omega) _).trans (hb0.mono (by simp <;> omega))
  clear hb0
  have Xc0 := X.cell 0
  simp at Xc0
  have Xl := X.lt
  go_wp2_with fail
  refine (short_true A L.length c _ hs).mono ?_
  rintro e' w1 ⟨rfl, hb1⟩
  replace X := X.keep hb1
  replace B := B.keep hb1
  replace F := F.keep hb1
  replace hrow := hrow.below hb1
  have hB1 := hB0.trans (hb1.mono hB0.size)
  clear Xc0 Xl
  clear hb1 hB0
  have Bc0 := B.cell 0
  simp at Bc0
  have Bl := B.lt
  have Fc0 := F.cell 0
  have Fc1 := F.cell 1
  have Fc2 := F.cell 2
  simp at Fc0 Fc1 Fc2
  have Fl := F.lt
  go_wp2_with fail
  refine (h1.out _).mono ?_
  rintro e' w2 ⟨rfl, hb2⟩
  replace X := X.keep hb2
  replace B := B.keep hb2
  replace F := F.keep hb2
  replace hrow := hrow.below hb2
  have hB2 := hB1.trans (hb2.mono hB1.size)
  clear Bc0 Bl Fc0 Fc1 Fc2 Fl
  clear hb2 hB1
  unfold pairV
  rcases he with ⟨he, hv⟩ | ⟨he, hv, hm⟩
  · subst he hv
    have Fc0 := F.cell 0
    have Fc1 := F.cell 1
    have Fc2 := F.cell 2
    simp at Fc0 Fc1 Fc2
    have Fl := F.lt
    go_wp2_with fail
    refine (h9.out _).mono ?_
    rintro e' w3 ⟨rfl, hb3⟩
    replace X := X.keep hb3
    replace B := B.keep hb3
    replace F := F.keep hb3
    replace hrow := hrow.below hb3
    have hB3 := hB2.trans (hb3.mono hB2.size)
    clear Fc0 Fc1 Fc2 Fl
    clear hb3 hB2
    have Bc0 := B.cell 0
    simp at Bc0
    have Bl := B.lt
    go_wp2_with fail
    go_ret
    exact ⟨rfl, hB3⟩
  · subst he hv
    have hmd : decide (m < 1) = true := by simpa using hm
    have Fc0 := F.cell 0
    have Fc1 := F.cell 1
    have Fc2 := F.cell 2
    simp at Fc0 Fc1 Fc2
    have Fl := F.lt
    go_wp2_with fail
    refine (h9.out _).mono ?_
    rintro e' w3 ⟨rfl, hb3⟩
    replace X := X.keep hb3
    replace B := B.keep hb3
    replace F := F.keep hb3
    replace hrow := hrow.below hb3
    have hB3 := hB2.trans (hb3.mono hB2.size)
    clear Fc0 Fc1 Fc2 Fl
    clear hb3 hB2
    have Bc0 := B.cell 0
    simp at Bc0
    have Bl := B.lt
    go_wp2_with fail
    go_ret
    exact ⟨rfl, hB3⟩

theorem bell_law (A : Option Addr) (c : Nat) (L : List Mesh) (m h d k : Int) (w : World) (hrow : RowAt w A (meshCells L)) (_hc : L.length ≤ c) (_hcm : c ≤ 9223372036854775807) :
    Calls Try.prog 13 #[.agg #[.slice A L.length c], .agg #[.int .i64 m], .agg #[.int .i64 h, .int .i64 d, .int .i64 k]] w fun e w' => e = .returned (.bool true) ∧ Below w.heap.size w w' := by
  by_cases hs : L.length ≤ 100
  · have hr : ∀ m : Int, Ret 40 #[.agg #[.int .i64 m], .agg #[.int .i64 h, .int .i64 d, .int .i64 k]] (pairV (ringsR m h d k)) := fun m W => rings_any m h d k W
    have hv : Ret 49 #[.agg #[.int .i64 h, .int .i64 d, .int .i64 k]] (.bool (okFeed h d k)) := fun W => gvalidFeed_any h d k W
    by_cases hf : okFeed h d k = true
    · by_cases hm : m < 1
      · have e : ringsR m h d k = (0, 72) := by rw [ringsR, if_pos hf, if_pos hm]
        have h1 := hr m
        rw [e] at h1
        rw [hf] at hv
        exact bell_stop A c L h d k m 0 72 true w hrow hs (.inr ⟨rfl, rfl, hm⟩) h1 hv
      · have hb := okFeed_bounds hf
        obtain ⟨m, rfl⟩ := Int.eq_ofNat_of_zero_le (show 0 ≤ m by omega)
        obtain ⟨h, rfl⟩ := Int.eq_ofNat_of_zero_le hb.1
        obtain ⟨d, rfl⟩ := Int.eq_ofNat_of_zero_le (show 0 ≤ d by omega)
        obtain ⟨k, rfl⟩ := Int.eq_ofNat_of_zero_le (show 0 ≤ k by omega)
        obtain ⟨f1, f2, f3, f4⟩ := ring_facts m h d (by omega) (by omega) (by omega)
        obtain ⟨t1, t2⟩ := time_turn (L := L) hf
        have h1 := hr m
        rw [rings_nat m h d k hf (by omega)] at h1
        refine bell_core A c L h d k m (Nat.min h (ringN m h d * d) : Nat) (h - ringN m h d * d : Nat) (Nat.min h ((ringN m h d - 1) * d) : Nat) (h - (ringN m h d - 1) * d : Nat) (ringN m h d) (ringN (m + 1) h d) (timeR L h d k k) (ratioR L) w hrow hs (by omega) (by omega) (fun hp => by have := f3 hp; omega) f4 f1 t1 h1
          (fun W => drawn_ok h d k _ W hf f1) (fun hp W => ?_) (fun hm2 => ?_) (fun W hW => time_any A c h d k k L W hW (by omega)) (fun W hW => ratioOf_any A c L W hW (by omega)) (fun hx W => ?_)
        · have e : ((ringN m h d : Nat) : Int) - 1 = ((ringN m h d - 1 : Nat) : Int) := by omega
          rw [e]
          exact drawn_ok h d k _ W hf (by omega)
        · have h2 := hr ((m + 1 : Nat) : Int)
          rw [rings_nat (m + 1) h d k hf (by omega)] at h2
          have e : ((m + 1 : Nat) : Int) = (m : Int) + 1 := by simp
          rw [e] at h2
          exact h2
        · rw [← t2 hx]
          exact times_any _ _ _ _ W
    · have e : ringsR m h d k = (0, 33) := by rw [ringsR, if_neg hf]
      have h1 := hr m
      rw [e] at h1
      have hf' : okFeed h d k = false := by simpa using hf
      rw [hf'] at hv
      exact bell_stop A c L h d k m 0 33 false w hrow hs (.inl ⟨rfl, rfl⟩) h1 hv
  · go_enter Try.func13, Try.ntmps13
    go_wp2_with fail
    refine (awake_any _).mono ?_
    rintro e' w0 ⟨rfl, hb0⟩
    have X : Bk w0 w.heap.size 24 #[.slice A L.length c] := (((bk_last rfl).alloc _).alloc _).keep hb0
    have B : Bk w0 (w.heap.size + 1) 59 #[.int .i64 m] := ((bk_last (by simp)).alloc _).keep hb0
    have F : Bk w0 (w.heap.size + 1 + 1) 57 #[.int .i64 h, .int .i64 d, .int .i64 k] := (bk_last (by simp)).keep hb0
    replace hrow := (((hrow.alloc _).alloc _).alloc _).below hb0
    have hB0 : Below w.heap.size w w0 := ((((Below.refl w.heap.size w).alloc (Nat.le_refl _) _).alloc (by simp <;> omega) _).alloc (by simp <;> omega) _).trans (hb0.mono (by simp <;> omega))
    clear hb0
    have Xc0 := X.cell 0
    simp at Xc0
    have Xl := X.lt
    go_wp2_with fail
    refine (short_false A L.length c _ hs).mono ?_
    rintro e' w1 ⟨rfl, hb1⟩
    replace X := X.keep hb1
    replace B := B.keep hb1
    replace F := F.keep hb1
    replace hrow := hrow.below hb1
    have hB1 := hB0.trans (hb1.mono hB0.size)
    clear Xc0 Xl
    clear hb1 hB0
    go_wp2
    go_ret
    exact ⟨rfl, hB1⟩

end Go.Proofs.Ytheifigkclegdaa
