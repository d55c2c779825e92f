/-
  What is proved: the walk of GearsMeets.
-/
import Derived.Test.YtheifigkclegdaaLawO
import Derived.Test.YtheifigkclegdaaMeetsM
namespace Go.Proofs.Ytheifigkclegdaa
open Go.RowKit

set_option maxRecDepth 100000 in
set_option maxHeartbeats 16000000 in
theorem meets_core (p q : Nat) (z : Int) (N G : Nat) (w : World) (hp1 : 1 ≤ p) (hp2 : p ≤ 40) (hq1 : 1 ≤ q) (hq2 : q ≤ 40) (hG : 1 ≤ G) (hN1 : 1 ≤ N) (hN2 : N ≤ 1600)
    (HQ : Hid (p * q / N = G ∧ p * (q / G) = N ∧ q = G * (q / G)))
    (h1 : Hid (Ret 29 #[.agg #[.int .i64 p, .int .i64 q, .int .i64 z]] (pairV (N, 0)))) (h2 : Hid (Ret 27 #[.agg #[.int .i64 p, .int .i64 q, .int .i64 z]] (.tuple #[.bool (decide (N = p * q)), .int .i64 0])))
    (h3 : Hid (∀ a b : Nat, a < p → b < q → (a % G = b % G ∧ ∃ k : Nat, k < N ∧ k % p = a ∧ k % q = b ∧ Ret 31 #[.agg #[.int .i64 p, .int .i64 q, .int .i64 z], .int .i64 a, .int .i64 b] (pairV (k, 0))) ∨ (¬ a % G = b % G ∧ Ret 31 #[.agg #[.int .i64 p, .int .i64 q, .int .i64 z], .int .i64 a, .int .i64 b] (pairV (0, 3))))) :
    Calls Try.prog 7 #[.agg #[.int .i64 p, .int .i64 q, .int .i64 z]] w fun e w' => e = .returned (.bool true) ∧ Below w.heap.size w w' := by
  go_enter Try.func7, Try.ntmps7
  go_wp2_with fail
  refine (awake_any _).mono ?_
  rintro e' w0 ⟨rfl, hb0⟩
  have M : Bk w0 w.heap.size 36 #[.int .i64 p, .int .i64 q, .int .i64 z] := (bk_last rfl).keep hb0
  have hB0 : Below w.heap.size w w0 := ((Below.refl w.heap.size w).alloc (Nat.le_refl _) _).trans (hb0.mono (by simp <;> omega))
  clear hb0
  have Mc0 := M.cell 0
  have Mc1 := M.cell 1
  have Mc2 := M.cell 2
  simp at Mc0 Mc1 Mc2
  have Ml := M.lt
  go_wp2_with fail
  refine (h1.out _).mono ?_
  rintro e' w1 ⟨rfl, hb1⟩
  replace M := M.keep hb1
  have hB1 := hB0.trans (hb1.mono hB0.size)
  clear Mc0 Mc1 Mc2 Ml
  clear hb1 hB0
  have Mc0 := M.cell 0
  have Mc1 := M.cell 1
  have Mc2 := M.cell 2
  simp at Mc0 Mc1 Mc2
  have Ml := M.lt
  unfold pairV
  go_wp2_with fail
  refine (h2.out _).mono ?_
  rintro e' w2 ⟨rfl, hb2⟩
  replace M := M.keep hb2
  have hB2 := hB1.trans (hb2.mono hB1.size)
  clear Mc0 Mc1 Mc2 Ml
  clear hb2 hB1
  have Mc0 := M.cell 0
  have Mc1 := M.cell 1
  have Mc2 := M.cell 2
  simp at Mc0 Mc1 Mc2
  have Ml := M.lt
  have hpq : (p : Int) * q = ((p * q : Nat) : Int) := by simp
  have hpq1 : p * q ≤ 1600 := Nat.mul_le_mul hp2 hq2
  have m1 : (p : Int) * q ≤ 1600 := by rw [hpq]; omega
  have m2 : 0 ≤ (p : Int) * q := by rw [hpq]; omega
  have nz : ((N : Int) == 0) = false := by simp; omega
  have pz : ((p : Int) == 0) = false := by simp; omega
  have qz : ((q : Int) == 0) = false := by simp; omega
  have gz : ((G : Int) == 0) = false := by simp; omega
  have HD : Hid ((p : Int) * q / N = (G : Nat)) := by
    unfold Hid
    rw [hpq, ← HQ.out.1, Int.natCast_ediv]
  have HE : Hid (((N : Int) == (p : Int) * q) = decide (N = p * q)) := by
    unfold Hid
    rw [hpq, beq_cast]
    rfl
  generalize hhu : decide (N = p * q) = hu at *
  clear hhu hpq hpq1
  go_wp2_with fail
  go_loopw [8, 9] (fun s i wr => ∃ a : Nat, a ≤ p ∧ i = .int .i64 a ∧ s = .int .i64 (a * (q / G) : Nat) ∧ Bk wr w.heap.size 36 #[.int .i64 p, .int .i64 q, .int .i64 z] ∧ Below w.heap.size w wr) (fun _ i _ => p - (intOf i).toNat)
  case atStart => exact ⟨0, Nat.zero_le _, rfl, by simp, M, hB2⟩
  case round =>
    clear M hB2 Mc0 Mc1 Mc2 Ml
    obtain ⟨a, ha, rfl, rfl, M, hB⟩ := hrel
    have Mc0 := M.cell 0
    have Mc1 := M.cell 1
    simp at Mc0 Mc1
    by_cases hlt : a < p
    · have hbnd : a * (q / G) ≤ 1600 := Nat.le_trans (Nat.mul_le_mul (show a ≤ 40 by omega) (show q / G ≤ 40 from Nat.le_trans (Nat.div_le_self _ _) hq2)) (by omega)
      have HF : Hid (cntR (a % G) G 0 = 0 ∧ cntR (a % G) G q = q / G ∧ ∀ b, cntR (a % G) G (b + 1) = cntR (a % G) G b + (if b % G = a % G then 1 else 0)) :=
        ⟨cntR_zero (Nat.mod_lt _ (by omega)), by have h := cntR_full (q := q / G) (Nat.mod_lt a (show G > 0 by omega)); rwa [← HQ.out.2.2] at h, fun b => cntR_succ (Nat.mod_lt _ (by omega))⟩
      have HNX : Hid ((a + 1) * (q / G) = a * (q / G) + q / G) := by unfold Hid; rw [Nat.add_mul, Nat.one_mul]
      have hqG : q / G ≤ 40 := Nat.le_trans (Nat.div_le_self _ _) hq2
      generalize hQ : q / G = Q at *
      generalize hS : a * Q = S at *
      clear hS
      go_wp2_with fail
      obtain ⟨wo, hwo⟩ : ∃ wo : World, wo = wr := ⟨_, rfl⟩
      subst hwo
      go_loopw [8, 10] (fun s j wr => ∃ b c : Nat, b ≤ q ∧ j = .int .i64 b ∧ s = .int .i64 (S + c : Nat) ∧ c ≤ b ∧ Hid (c = cntR (a % G) G b) ∧ Bk wr w.heap.size 36 #[.int .i64 p, .int .i64 q, .int .i64 z] ∧ Below w.heap.size w wr) (fun _ j _ => q - (intOf j).toNat)
      case atStart => exact ⟨0, 0, Nat.zero_le _, rfl, by simp, Nat.le_refl _, HF.out.1.symm, M, hB⟩
      case round =>
        clear M hB Mc0 Mc1
        obtain ⟨b, c, hb, rfl, rfl, hcb, hc, M, hB⟩ := hrel
        have Mc0 := M.cell 0
        have Mc1 := M.cell 1
        have Mc2 := M.cell 2
        simp at Mc0 Mc1 Mc2
        by_cases hlb : b < q
        · have HS := Lib.hid (same_tmod (a := a) (b := b) hG)
          have haI : (a : Int) < p := by omega
          have hbI : (b : Int) < q := by omega
          rcases h3.out a b hlt hlb with ⟨hsm, k, hk1, hk2, hk3, hk⟩ | ⟨hsm, hk⟩
          · have HS1 : Hid ((Int.tmod ((a : Int) - b) G == 0) = true) := by unfold Hid; rw [HS.out]; simpa using hsm
            have HC : Hid (c + 1 = cntR (a % G) G (b + 1)) := by unfold Hid; rw [HF.out.2.2, if_pos hsm.symm, hc.out]
            have HK := Lib.hid hk
            clear hk HS hsm hc
            go_wp2_with fail
            refine (HK.out _).mono ?_
            rintro e' w1 ⟨rfl, hb1⟩
            replace M := M.keep hb1
            have hB1 := hB.trans (hb1.mono hB.size)
            clear hb1 hB Mc0 Mc1 Mc2
            have Mc0 := M.cell 0
            have Mc1 := M.cell 1
            simp at Mc0 Mc1
            unfold pairV
            have f1 : (k : Int) % p = a := by omega
            have f2 : (k : Int) % q = b := by omega
            have f3 : (k : Int) < N := by omega
            have f4 := HD.out
            have f5 := HS1.out
            go_wp2_with fail
            go_roundw
            case rel => exact ⟨b + 1, c + 1, by omega, by go_num, congrArg (Value.int .i64) (by omega), by omega, HC, M, hB1⟩
            case measure => simp [intOf]; omega
          · have HS1 : Hid ((Int.tmod ((a : Int) - b) G == 0) = false) := by unfold Hid; rw [HS.out]; simpa using hsm
            have HC : Hid (c = cntR (a % G) G (b + 1)) := by unfold Hid; rw [HF.out.2.2, if_neg (fun e => hsm e.symm), hc.out, Nat.add_zero]
            have HK := Lib.hid hk
            clear hk HS hsm hc
            go_wp2_with fail
            refine (HK.out _).mono ?_
            rintro e' w1 ⟨rfl, hb1⟩
            replace M := M.keep hb1
            have hB1 := hB.trans (hb1.mono hB.size)
            clear hb1 hB Mc0 Mc1 Mc2
            have Mc0 := M.cell 0
            have Mc1 := M.cell 1
            simp at Mc0 Mc1
            unfold pairV
            have f4 := HD.out
            have f5 := HS1.out
            go_wp2_with fail
            go_roundw
            case rel => exact ⟨b + 1, c, by omega, by go_num, rfl, by omega, HC, M, hB1⟩
            case measure => simp [intOf]; omega
        · have : b = q := by omega
          subst this
          have hcQ : c = Q := hc.out.trans HF.out.2.1
          subst hcQ
          go_wp2_with fail
          go_roundw
          case rel => exact ⟨a + 1, by omega, by go_num, by rw [HNX.out], M, hB⟩
          case measure => simp [intOf]; omega
    · have : a = p := by omega
      subst this
      have hN := HQ.out.2.1
      rw [hN]
      have f6 := HE.out
      go_wp2_with fail
      go_ret
      exact ⟨rfl, hB⟩

set_option maxRecDepth 100000 in
set_option maxHeartbeats 4000000 in
theorem meets_stop (x y z n e : Int) (h : Bool) (w : World) (hc : e ≠ 0 ∨ (e = 0 ∧ (40 < x ∨ 40 < y)))
    (h1 : Hid (Ret 29 #[.agg #[.int .i64 x, .int .i64 y, .int .i64 z]] (pairV (n, e)))) (h2 : Hid (Ret 27 #[.agg #[.int .i64 x, .int .i64 y, .int .i64 z]] (.tuple #[.bool h, .int .i64 e]))) :
    Calls Try.prog 7 #[.agg #[.int .i64 x, .int .i64 y, .int .i64 z]] w fun e w' => e = .returned (.bool true) ∧ Below w.heap.size w w' := by
  go_enter Try.func7, Try.ntmps7
  go_wp2_with fail
  refine (awake_any _).mono ?_
  rintro e' w0 ⟨rfl, hb0⟩
  have M : Bk w0 w.heap.size 36 #[.int .i64 x, .int .i64 y, .int .i64 z] := (bk_last rfl).keep hb0
  have hB0 : Below w.heap.size w w0 := ((Below.refl w.heap.size w).alloc (Nat.le_refl _) _).trans (hb0.mono (by simp <;> omega))
  clear hb0
  have Mc0 := M.cell 0
  have Mc1 := M.cell 1
  have Mc2 := M.cell 2
  simp at Mc0 Mc1 Mc2
  have Ml := M.lt
  go_wp2_with fail
  refine (h1.out _).mono ?_
  rintro e' w1 ⟨rfl, hb1⟩
  replace M := M.keep hb1
  have hB1 := hB0.trans (hb1.mono hB0.size)
  clear Mc0 Mc1 Mc2 Ml
  clear hb1 hB0
  have Mc0 := M.cell 0
  have Mc1 := M.cell 1
  have Mc2 := M.cell 2
  simp at Mc0 Mc1 Mc2
  have Ml := M.lt
  unfold pairV
  go_wp2_with fail
  refine (h2.out _).mono ?_
  rintro e' w2 ⟨rfl, hb2⟩
  replace M := M.keep hb2
  have hB2 := hB1.trans (hb2.mono hB1.size)
  clear Mc0 Mc1 Mc2 Ml
  clear hb2 hB1
  have Mc0 := M.cell 0
  have Mc1 := M.cell 1
  have Mc2 := M.cell 2
  simp at Mc0 Mc1 Mc2
  have Ml := M.lt
  by_cases he : e = 0
  · subst he
    by_cases hx : 40 < x
    · have hx' : decide ((40 : Int) < x) = true := by simpa using hx
      go_wp2_with fail
      go_ret
      exact ⟨rfl, hB2⟩
    · have hx' : decide ((40 : Int) < x) = false := by simpa using hx
      have hy : 40 < y := by omega
      have hy' : decide ((40 : Int) < y) = true := by simpa using hy
      go_wp2_with fail
      go_ret
      exact ⟨rfl, hB2⟩
  · have he' : (e == 0) = false := by simpa using he
    go_wp2_with fail
    go_ret
    exact ⟨rfl, hB2⟩

theorem meets_law (x y z : Int) (w : World) :
    Calls Try.prog 7 #[.agg #[.int .i64 x, .int .i64 y, .int .i64 z]] w fun e w' => e = .returned (.bool true) ∧ Below w.heap.size w w' := by
  by_cases hok : Mesh.ok ⟨x, y, z⟩ = true
  · by_cases hsm : x ≤ 40 ∧ y ≤ 40
    · obtain ⟨p, q, rfl, rfl, hp1, hp2, hq1, hq2⟩ := ok_nat hok
      have hp3 : p ≤ 40 := by omega
      have hq3 : q ≤ 40 := by omega
      obtain ⟨k1, k2⟩ := grips_quo hp1 hq1
      have hN : gripsN ⟨p, q, z⟩ = p * q / Nat.gcd p q := by simp [gripsN]
      have hG : 1 ≤ Nat.gcd p q := Nat.gcd_pos_of_pos_left _ (by omega)
      have hle : p * q / Nat.gcd p q ≤ 1600 := Nat.le_trans (Nat.div_le_self _ _) (Nat.mul_le_mul hp3 hq3)
      have hR : gripsR ⟨p, q, z⟩ = (((p * q / Nat.gcd p q : Nat) : Int), 0) := by rw [gripsR, if_pos hok, hN]
      have hH : huntR ⟨p, q, z⟩ = (decide (p * q / Nat.gcd p q = p * q), 0) := by
        rw [huntR, if_pos hok]
        simp only [Int.toNat_natCast, Prod.mk.injEq, and_true]
        rw [decide_eq_decide]
        exact (grips_all hp1 hq1).symm
      refine meets_core p q z (p * q / Nat.gcd p q) (Nat.gcd p q) w hp1 hp3 hq1 hq3 hG k2 hle ⟨k1, (Nat.mul_div_assoc _ (Nat.gcd_dvd_right p q)).symm, (Nat.mul_div_cancel' (Nat.gcd_dvd_right p q)).symm⟩ ?_ ?_ ?_
      · intro W
        rw [← hR]
        exact grips_any _ _ _ W
      · intro W
        have h := hunting_any p q z W
        rw [hH] at h
        exact h
      · intro a b ha hb
        have hm : ∀ W, Calls Try.prog 31 #[.agg #[.int .i64 p, .int .i64 q, .int .i64 z], .int .i64 a, .int .i64 b] W fun e w' => e = .returned (pairV (meetV (meetAt (p * q / Nat.gcd p q) p q b a))) ∧ Below W.heap.size W w' := fun W => by
          rw [← hN]
          exact meets_ok p q a b z W hok ha hb
        rcases meet_iff hp1 hq1 ha hb with ⟨h1, k, h2, h3, h4, h5⟩ | ⟨h1, h2⟩
        · rw [h2] at hm
          exact .inl ⟨h1, k, h3, h4, h5, hm⟩
        · rw [h2] at hm
          exact .inr ⟨h1, hm⟩
    · have hR : gripsR ⟨x, y, z⟩ = (((gripsN ⟨x, y, z⟩ : Nat) : Int), 0) := by rw [gripsR, if_pos hok]
      have hH : (huntR ⟨x, y, z⟩).2 = 0 := by rw [huntR, if_pos hok]
      refine meets_stop x y z (gripsN ⟨x, y, z⟩ : Nat) 0 (huntR ⟨x, y, z⟩).1 w (.inr ⟨rfl, by omega⟩) ?_ ?_
      · intro W
        rw [← hR]
        exact grips_any _ _ _ W
      · intro W
        have h := hunting_any x y z W
        rwa [hH] at h
  · have hR : gripsR ⟨x, y, z⟩ = (0, 70) := by rw [gripsR, if_neg hok]
    have hH : huntR ⟨x, y, z⟩ = (false, 70) := by rw [huntR, if_neg hok]
    refine meets_stop x y z 0 70 false w (.inl (by omega)) ?_ ?_
    · intro W
      rw [← hR]
      exact grips_any _ _ _ W
    · intro W
      have h := hunting_any x y z W
      rwa [hH] at h

end Go.Proofs.Ytheifigkclegdaa
