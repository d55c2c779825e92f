/-
  What is proved: the contracts of the specification's Grips, Hunting and Meets, and of its ratio of a train.
-/
import Derived.Test.YtheifigkclegdaaTurns
import Derived.Test.YtheifigkclegdaaTeeth
namespace Go.Proofs.Ytheifigkclegdaa
open Go.RowKit
attribute [local go_sem] Res.val

set_option maxHeartbeats 1000000 in
theorem rgrips_any (x y z : Int) (w : World) :
    Calls Try.prog 30 #[.agg #[.int .i64 x, .int .i64 y, .int .i64 z]] w fun e w' => e = .returned (pairV (gripsR ⟨x, y, z⟩)) ∧ Below w.heap.size w w' := by
  by_cases hok : Mesh.ok ⟨x, y, z⟩ = true
  · obtain ⟨a, b, rfl, rfl, ha1, ha2, hb1, hb2⟩ := ok_nat hok
    obtain ⟨m1, m2⟩ := mul_4096 ha2 hb2
    have g0 : 0 < Nat.gcd a b := Nat.gcd_pos_of_pos_right _ (by omega)
    have g1 : 1 ≤ ((Nat.gcd a b : Nat) : Int) := by omega
    have g2 : (((Nat.gcd a b : Nat) : Int) == 0) = false := by simp; omega
    have HV : Hid ((a : Int) * b / ((Nat.gcd a b : Nat) : Int) = (gripsN ⟨a, b, z⟩ : Nat)) := by unfold Hid gripsN; simp
    have q1 : 0 ≤ (a : Int) * b / ((Nat.gcd a b : Nat) : Int) := Int.ediv_nonneg m2 (by omega)
    have q2 : (a : Int) * b / ((Nat.gcd a b : Nat) : Int) ≤ 16777216 := Int.le_trans (Int.ediv_le_self _ m2) m1
    have HR : Hid (gripsR ⟨a, b, z⟩ = (((gripsN ⟨a, b, z⟩ : Nat) : Int), 0)) := by unfold Hid gripsR; rw [if_pos hok]
    rw [HR.out]
    go_enter Try.func30, Try.ntmps30
    go_wp2_with fail
    refine (rvalidMesh_any _ _ _ _).mono ?_
    rintro e w1 ⟨rfl, hb1⟩
    have M : Bk w1 w.heap.size 36 #[.int .i64 a, .int .i64 b, .int .i64 z] := (bk_last rfl).keep hb1
    have hB1 : Below w.heap.size w w1 := ((Below.refl _ _).alloc (Nat.le_refl _) _).trans (hb1.mono (by simp))
    clear hb1
    have c0 := M.cell 0
    have c1 := M.cell 1
    simp at c0 c1
    rw [hok]
    go_wp2
    go_quiet ((go_at_call 67; refine Calls.quiet_of (rgcd_q _ _ _ (by omega) (by omega))))
    go_wp2
    go_ret2
    exact ⟨by rw [HV.out]; rfl, below_drewN hB1 _⟩
  · have hok' : Mesh.ok ⟨x, y, z⟩ = false := by simpa using hok
    go_enter Try.func30, Try.ntmps30
    go_wp2_with fail
    refine (rvalidMesh_any _ _ _ _).mono ?_
    rintro e w1 ⟨rfl, hb1⟩
    have hB1 : Below w.heap.size w w1 := ((Below.refl _ _).alloc (Nat.le_refl _) _).trans (hb1.mono (by simp))
    clear hb1
    rw [hok']
    go_wp2
    go_ret2
    exact ⟨by simp [gripsR, hok', pairV], hB1⟩

set_option maxHeartbeats 1000000 in
theorem rhunting_any (x y z : Int) (w : World) :
    Calls Try.prog 28 #[.agg #[.int .i64 x, .int .i64 y, .int .i64 z]] w fun e w' => e = .returned (.tuple #[.bool (huntR ⟨x, y, z⟩).1, .int .i64 (huntR ⟨x, y, z⟩).2]) ∧ Below w.heap.size w w' := by
  by_cases hok : Mesh.ok ⟨x, y, z⟩ = true
  · obtain ⟨a, b, rfl, rfl, ha1, ha2, hb1, hb2⟩ := ok_nat hok
    have HV : Hid ((huntR ⟨a, b, z⟩).1 = decide (Nat.gcd a b = 1) ∧ (huntR ⟨a, b, z⟩).2 = 0) := by simp [Hid, huntR, hok]
    go_enter Try.func28, Try.ntmps28
    go_wp2_with fail
    refine (rvalidMesh_any _ _ _ _).mono ?_
    rintro e w1 ⟨rfl, hb1⟩
    have M : Bk w1 w.heap.size 36 #[.int .i64 a, .int .i64 b, .int .i64 z] := (bk_last rfl).keep hb1
    have hB1 : Below w.heap.size w w1 := ((Below.refl _ _).alloc (Nat.le_refl _) _).trans (hb1.mono (by simp))
    clear hb1
    have c0 := M.cell 0
    have c1 := M.cell 1
    simp at c0 c1
    rw [hok]
    go_wp2_with fail
    refine (rgcd_any a b _ (by omega) (by omega)).mono ?_
    rintro e w2 ⟨rfl, rfl⟩
    go_wp2_with fail
    go_ret2
    refine ⟨?_, hB1⟩
    rw [HV.out.1, HV.out.2]
    rw [show (1 : Int) = ((1 : Nat) : Int) from rfl, beq_cast]
    rfl
  · have hok' : Mesh.ok ⟨x, y, z⟩ = false := by simpa using hok
    go_enter Try.func28, Try.ntmps28
    go_wp2_with fail
    refine (rvalidMesh_any _ _ _ _).mono ?_
    rintro e w1 ⟨rfl, hb1⟩
    have hB1 : Below w.heap.size w w1 := ((Below.refl _ _).alloc (Nat.le_refl _) _).trans (hb1.mono (by simp))
    clear hb1
    rw [hok']
    go_wp2
    go_ret2
    exact ⟨by simp [huntR, hok'], hB1⟩

set_option maxHeartbeats 4000000 in
theorem rmeets_ok (a b t c : Nat) (z : Int) (w : World) (hok : Mesh.ok ⟨a, b, z⟩ = true) (ht : t < a) (hcb : c < b) :
    Calls Try.prog 32 #[.agg #[.int .i64 a, .int .i64 b, .int .i64 z], .int .i64 t, .int .i64 c] w fun e w' => e = .returned (pairV (meetV (meetAt (gripsN ⟨a, b, z⟩) a b c t))) ∧ Below w.heap.size w w' := by
  have hab := ok_mesh hok
  simp only at hab
  have HR : Hid (gripsR ⟨a, b, z⟩ = (((gripsN ⟨a, b, z⟩ : Nat) : Int), 0)) := by unfold Hid gripsR; rw [if_pos hok]
  have hmany : gripsN ⟨a, b, z⟩ ≤ 16777216 := by
    obtain ⟨m1, m2⟩ := mul_4096 (a := a) (b := b) (by omega) (by omega)
    have : gripsN ⟨a, b, z⟩ ≤ a * b := by unfold gripsN; simpa using Nat.div_le_self _ _
    have e1 : (a : Int) * b = ((a * b : Nat) : Int) := by simp
    omega
  have t1 : inB (t : Int) 0 ((a : Int) - 1) = true := by simp [inB]; omega
  have c1 : inB (c : Int) 0 ((b : Int) - 1) = true := by simp [inB]; omega
  have bz : ((b : Int) == 0) = false := by simp; omega
  have b1 : (1 : Int) ≤ (b : Int) := by omega
  generalize hM : meetAt (gripsN ⟨a, b, z⟩) a b c t = M
  have HQ : Hid (meetAt (gripsN ⟨a, b, z⟩) a b c t = M) := hM
  clear hM
  go_enter Try.func32, Try.ntmps32
  go_wp2_with fail
  refine (rgrips_any _ _ _ _).mono ?_
  rintro e w1 ⟨rfl, hb1⟩
  have M1 : Bk w1 w.heap.size 36 #[.int .i64 a, .int .i64 b, .int .i64 z] := (bk_last rfl).keep hb1
  have hB1 : Below w.heap.size w w1 := ((Below.refl _ _).alloc (Nat.le_refl _) _).trans (hb1.mono (by simp))
  clear hb1
  have x0 := M1.cell 0
  have x1 := M1.cell 1
  simp at x0 x1
  rw [HR.out]
  unfold pairV
  clear HR
  generalize gripsN ⟨a, b, z⟩ = many at *
  go_wp2_with (go_at_call 78; refine (rwithin_any _ _ _ _).mono ?_; rintro e w' ⟨rfl, rfl⟩)
  go_loop [10] (fun i => ∃ n : Nat, i = .int .i64 n ∧ n ≤ 16785408 ∧ Hid (meetAt many a b c n = M)) (fun i => many - (intOf i).toNat)
  case atStart => exact ⟨t, rfl, by omega, HQ⟩
  case round =>
    clear HQ
    obtain ⟨n, rfl, hn, HQ⟩ := hrel
    by_cases h1 : many ≤ n
    · have h2 : (many : Int) ≤ n := by omega
      have HE := HQ.out.symm.trans (meetAt_none h1)
      clear HQ
      subst HE
      go_wp2
      go_ret2
      exact ⟨rfl, hB1⟩
    · have h2 : (n : Int) < many := by omega
      by_cases h3 : n % b = c
      · have h4 : (n : Int) % b = c := by omega
        have HE := HQ.out.symm.trans (meetAt_hit (by omega) (by omega) h3)
        clear HQ
        subst HE
        go_wp2
        go_ret2
        exact ⟨rfl, hB1⟩
      · have h4 : ¬ ((n : Int) % b = c) := by omega
        have HE : Hid (meetAt many a b c (n + a) = M) := (meetAt_next (by omega) (by omega) h3).trans HQ.out
        clear HQ
        have h5 : ((n : Int) % b == c) = false := by simpa using h4
        go_wp2
        go_round
        case rel => exact ⟨n + a, by simp, by omega, HE⟩
        case measure => simp [intOf]; omega

set_option maxHeartbeats 1000000 in
theorem rmeets_any (x y z t c : Int) (w : World) :
    Calls Try.prog 32 #[.agg #[.int .i64 x, .int .i64 y, .int .i64 z], .int .i64 t, .int .i64 c] w fun e w' => e = .returned (pairV (meetsR ⟨x, y, z⟩ t c)) ∧ Below w.heap.size w w' := by
  by_cases hok : Mesh.ok ⟨x, y, z⟩ = true
  · obtain ⟨a, b, rfl, rfl, ha1, ha2, hb1, hb2⟩ := ok_nat hok
    by_cases hin : (inB t 0 ((a : Int) - 1) && inB c 0 ((b : Int) - 1)) = true
    · have hin' := hin
      simp only [inB, Bool.and_eq_true, decide_eq_true_eq] at hin'
      obtain ⟨t', rfl⟩ := Int.eq_ofNat_of_zero_le hin'.1.1
      obtain ⟨c', rfl⟩ := Int.eq_ofNat_of_zero_le hin'.2.1
      have HR : meetsR ⟨a, b, z⟩ t' c' = meetV (meetAt (gripsN ⟨a, b, z⟩) a b c' t') := by
        unfold meetsR
        rw [if_pos hok, if_pos hin]
        simp
      rw [HR]
      exact rmeets_ok a b t' c' z w hok (by omega) (by omega)
    · have HR : Hid (gripsR ⟨a, b, z⟩ = (((gripsN ⟨a, b, z⟩ : Nat) : Int), 0)) := by unfold Hid gripsR; rw [if_pos hok]
      have HV : Hid (meetsR ⟨a, b, z⟩ t c = (0, 1)) := by unfold Hid meetsR; rw [if_pos hok, if_neg hin]
      rw [HV.out]
      have hin2 : inB t 0 ((a : Int) - 1) = false ∨ (inB t 0 ((a : Int) - 1) = true ∧ inB c 0 ((b : Int) - 1) = false) := by
        cases h1 : inB t 0 ((a : Int) - 1) with
        | false => exact .inl rfl
        | true => exact .inr ⟨rfl, by simpa [h1] using hin⟩
      clear hin
      go_enter Try.func32, Try.ntmps32
      go_wp2_with fail
      refine (rgrips_any _ _ _ _).mono ?_
      rintro e w1 ⟨rfl, hb1⟩
      have M1 : Bk w1 w.heap.size 36 #[.int .i64 a, .int .i64 b, .int .i64 z] := (bk_last rfl).keep hb1
      have hB1 : Below w.heap.size w w1 := ((Below.refl _ _).alloc (Nat.le_refl _) _).trans (hb1.mono (by simp))
      clear hb1
      have x0 := M1.cell 0
      have x1 := M1.cell 1
      simp at x0 x1
      rw [HR.out]
      unfold pairV
      rcases hin2 with h1 | ⟨h1, h2⟩
      all_goals
        go_wp2_with (go_at_call 78; refine (rwithin_any _ _ _ _).mono ?_; rintro e w' ⟨rfl, rfl⟩)
        go_ret2
        exact ⟨rfl, hB1⟩
  · have hok' : Mesh.ok ⟨x, y, z⟩ = false := by simpa using hok
    have HR : Hid (gripsR ⟨x, y, z⟩ = (0, 70)) := by unfold Hid gripsR; rw [if_neg hok]
    have HV : Hid (meetsR ⟨x, y, z⟩ t c = (0, 70)) := by unfold Hid meetsR; rw [if_neg hok]
    rw [HV.out]
    go_enter Try.func32, Try.ntmps32
    go_wp2_with fail
    refine (rgrips_any _ _ _ _).mono ?_
    rintro e w1 ⟨rfl, hb1⟩
    have hB1 : Below w.heap.size w w1 := ((Below.refl _ _).alloc (Nat.le_refl _) _).trans (hb1.mono (by simp))
    clear hb1
    rw [HR.out]
    unfold pairV
    go_wp2
    go_ret2
    exact ⟨rfl, hB1⟩

set_option maxRecDepth 100000 in
set_option maxHeartbeats 4000000 in
theorem rratioOf_any (A : Option Addr) (c : Nat) (L : List Mesh) (w : World) (hL : RowAt w A (meshCells L)) (hn : L.length ≤ 9223372036854775807) :
    Calls Try.prog 26 #[.agg #[.slice A L.length c]] w fun e w' => e = .returned (ratioR L).val ∧ Below w.heap.size w w' := by
  by_cases hok : okTrain L = true
  · obtain ⟨k1, k2, k3⟩ := ok_train hok
    have hR : ratioR L = low (pr (drs L)) (pr (dns L)) := by rw [ratioR, if_pos hok]
    have hLW : ∀ (W : World) (A B : Option Addr) (ca cb : Nat), RowAt W A (natCells (drs L)) → RowAt W B (natCells (dns L)) →
        Calls Try.prog 75 #[.slice A L.length ca, .slice B L.length cb] W fun e w' => e = .returned (ratioR L).val ∧ Below W.heap.size W w' := fun W A B ca cb h1 h2 => by
      have h := lowest_any A B ca cb _ _ W h1 h2 (by rw [drs_len]; omega) (by rw [dns_len]; omega) (drs_mem k3) (dns_mem k3)
      rw [drs_len, dns_len, ← hR] at h
      exact h
    have HLW := Lib.hid (And.intro hLW k3)
    clear hLW hR k3
    go_enter Try.func26, Try.ntmps26
    go_wp2_with fail
    refine (rvalidTrain_any A c L _ ((hL.alloc _).alloc _) hn).mono ?_
    rintro e w1 ⟨rfl, hb1⟩
    have hE : Bk w1 (w.heap.size + 1) 42 #[.int .i64 0, .int .i64 0] := (bk_last (by simp)).keep hb1
    have hX : Bk w1 w.heap.size 24 #[.slice A L.length c] := ((bk_last rfl).alloc _).keep hb1
    have hB1 : Below w.heap.size w w1 := (((Below.refl _ _).alloc (Nat.le_refl _) _).alloc (by simp) _).trans (hb1.mono (by simp; omega))
    have hx := hX.cell 0
    simp at hx
    clear hb1
    rw [hok]
    go_wp2_with fail
    refine (wheels_any A c L.length L _ (hL.below hB1) (Nat.le_refl _) (by omega)).mono ?_
    rintro e w2 ⟨va, vb, rfl, ho1, ho2, _, hb2⟩
    rw [List.take_length] at ho1 ho2
    obtain ⟨hn1, hn2⟩ := wheels_low HLW.out.2 rfl ho1 ho2
    have hE2 := hE.keep hb2
    have hB2 := hB1.trans (hb2.mono hB1.size)
    clear hb2 ho1 ho2 hB1 hE hX hx
    obtain ⟨A1, ca, rfl, _, ra, _⟩ := own_form hn1
    obtain ⟨B1, cb, rfl, _, rb, _⟩ := own_form hn2
    go_wp2_with fail
    refine (HLW.out.1 w2 A1 B1 ca cb ra rb).mono ?_
    rintro e w3 ⟨rfl, hb3⟩
    have hE3 := hE2.keep hb3
    have hB3 := hB2.trans (hb3.mono hB2.size)
    have e0 := hE3.cell 0
    have e1 := hE3.cell 1
    have e2 := hE3.fz 0
    have e3 := hE3.fz 1
    simp at e0 e1
    clear hb3 hE2 hB2
    go_wp2_with fail
    refine bodyPost_ret (v := (ratioR L).val) (by simp [results, Try.results26, go_sem, e0, e1]) rfl ⟨rfl, (hB3.setCell (by simp) _).setCell (by simp) _⟩
  · have hok' : okTrain L = false := by simpa using hok
    have hR : ratioR L = ⟨0, 0, 70⟩ := by rw [ratioR, if_neg hok]
    rw [hR]
    go_enter Try.func26, Try.ntmps26
    go_wp2_with fail
    refine (rvalidTrain_any A c L _ ((hL.alloc _).alloc _) hn).mono ?_
    rintro e w1 ⟨rfl, hb1⟩
    have hE : Bk w1 (w.heap.size + 1) 42 #[.int .i64 0, .int .i64 0] := (bk_last (by simp)).keep hb1
    have hB1 : Below w.heap.size w w1 := (((Below.refl _ _).alloc (Nat.le_refl _) _).alloc (by simp) _).trans (hb1.mono (by simp; omega))
    clear hb1
    rw [hok']
    have e0 := hE.cell 0
    have e1 := hE.cell 1
    have e2 := hE.fz 0
    have e3 := hE.fz 1
    simp at e0 e1
    go_wp2_with fail
    refine bodyPost_ret (v := .tuple #[.agg #[.int .i64 0, .int .i64 0], .int .i64 70]) (by simp [results, Try.results26, go_sem, e0, e1]) rfl ⟨rfl, (hB1.setCell (by simp) _).setCell (by simp) _⟩

end Go.Proofs.Ytheifigkclegdaa
