/-
  What is proved: the contract of the specification's Period.
-/
import Derived.Test.YtheifigkclegdaaRStands
import Derived.Test.YtheifigkclegdaaPeriod
namespace Go.Proofs.Ytheifigkclegdaa
open Go.RowKit
attribute [local go_sem] Res.val

theorem perGo_stop {r : Res} {rs : List Res} {n : Nat} (h : r.err ≠ 0) : perGo (r :: rs) n = none := by
  unfold perGo
  rw [if_neg h]

set_option maxRecDepth 100000 in
set_option maxHeartbeats 4000000 in
theorem rperiod_ok (b off c : Nat) (L : List Mesh) (w : World) (hL : RowAt w (some ⟨b, off, none⟩) (meshCells L)) (hok : okTrain L = true) :
    Calls Try.prog 21 #[.agg #[.slice (some ⟨b, off, none⟩) L.length c]] w fun e w' => e = .returned (pairV (perV (perGo (shaftL L) 1))) ∧ Below w.heap.size w w' := by
  obtain ⟨k1, k2, _⟩ := ok_train hok
  have HL := Lib.hid (And.intro hL hok)
  clear hL hok
  have hLn : L.length ≤ 9223372036854775807 := by omega
  generalize hM : perGo (shaftL L) 1 = M
  have HM := Lib.hid hM
  clear hM
  go_enter Try.func21, Try.ntmps21
  go_wp2_with fail
  refine (rvalidTrain_any _ _ _ _ (HL.out.1.alloc _) hLn).mono ?_
  rintro e w1 ⟨rfl, hb1⟩
  have X1 : Bk w1 w.heap.size 24 #[.slice (some ⟨b, off, none⟩) L.length c] := (bk_last rfl).keep hb1
  have hB1 : Below w.heap.size w w1 := ((Below.refl _ _).alloc (Nat.le_refl _) _).trans (hb1.mono (by simp))
  clear hb1
  rw [HL.out.2]
  have hM0 : Hid (perGo ((shaftL L).drop 0) 1 = M) := HM.out
  clear HM
  go_wp2
  go_loopw [4, 5] (fun x i wr => ∃ k n : Nat, k ≤ L.length + 1 ∧ i = .int .i64 k ∧ x = .int .i64 n ∧ 1 ≤ n ∧ n ≤ 1099511627776 ∧ Hid (perGo ((shaftL L).drop k) n = M) ∧ Bk wr w.heap.size 24 #[.slice (some ⟨b, off, none⟩) L.length c] ∧ Below w.heap.size w wr) (fun _ i _ => L.length + 1 - (intOf i).toNat)
  case atStart => exact ⟨0, 1, Nat.zero_le _, rfl, rfl, by omega, by omega, hM0, X1, hB1⟩
  case round =>
    clear hM0 X1 hB1
    obtain ⟨k, n, hk, rfl, rfl, hn1, hn2, hP, X, hB⟩ := hrel
    have hx := X.cell 0
    simp at hx
    by_cases hlt : k < L.length + 1
    · have hkI : (k : Int) ≤ (L.length : Int) := by omega
      go_wp2_with fail
      refine (turns_any b off c k L _ (HL.out.1.below hB) HL.out.2 (by omega)).mono ?_
      rintro e w2 ⟨rfl, hb2⟩
      replace X := X.keep hb2
      have hB2 := hB.trans (hb2.mono hB.size)
      clear hb2 hx hB
      have hD := shaftL_drop hlt
      have hS : (shaftR L k).err = 0 → _ := fun he => per_step hlt he hP.out
      have hfa := shaft_fit1 HL.out.2 k
      have herr := shaftR_err L k
      have hbad : (shaftR L k).err ≠ 0 → none = M := fun he => by rw [← hP.out, hD, perGo_stop he]
      have HS := Lib.hid (And.intro hS hbad)
      clear hS hbad hD hP
      generalize shaftR L k = r at *
      rcases herr with he | he
      · obtain ⟨f1, f2, f3⟩ := hfa he
        have hS := Lib.hid (HS.out.1 he)
        obtain ⟨rn, rd, re⟩ := r
        simp only at he f1 f2 f3 hS
        subst he
        clear hfa HS
        have g0 : 0 < Nat.gcd n rd := Nat.gcd_pos_of_pos_right _ (by omega)
        have g1 : 1 ≤ ((Nat.gcd n rd : Nat) : Int) := by omega
        have g2 : (((Nat.gcd n rd : Nat) : Int) == 0) = false := by simp; omega
        have d1 : 1 ≤ rd / Nat.gcd n rd := Nat.div_pos (Nat.gcd_le_right _ (by omega)) g0
        have d2 : rd / Nat.gcd n rd ≤ rd := Nat.div_le_self _ _
        have hd : (rd : Int) / ((Nat.gcd n rd : Nat) : Int) = ((rd / Nat.gcd n rd : Nat) : Int) := by simp
        generalize hdd : rd / Nat.gcd n rd = d at *
        have d3 : (1 : Int) ≤ (d : Int) := by omega
        have d4 : ((d : Int) == 0) = false := by simp; omega
        have q0 : (w2.alloc (Obj.cells #[Value.int IntKind.i64 rn, Value.int IntKind.i64 rd] 42)).cell? ⟨w2.heap.size, 1, none⟩ = some (.int .i64 rd) := by simp
        go_wp2
        go_quiet ((go_at_call 67; refine Calls.quiet_of (rgcd_q _ _ _ (by omega) (by omega))))
        clear g0 g1 g2 hd hdd
        have e1 : (1099511627776 : Int) / (d : Int) = ((1099511627776 / d : Nat) : Int) := by simp
        by_cases hgt : 1099511627776 / d < n
        · have e2 : (1099511627776 : Int) / (d : Int) < (n : Int) := by rw [e1]; omega
          have hE := hS.out.1 hgt
          clear hS e1
          go_wp2
          go_ret2
          subst hE
          exact ⟨rfl, below_drewN (hB2.alloc hB2.size _) _⟩
        · have e2 : ¬ (1099511627776 : Int) / (d : Int) < (n : Int) := by rw [e1]; omega
          have hE : Hid (perGo ((shaftL L).drop (k + 1)) (n * d) = M) := hS.out.2 hgt
          have e3 := per_fits d1 hgt
          have e4 : (n : Int) * d = ((n * d : Nat) : Int) := by simp
          have e5 : 1 ≤ n * d := Nat.mul_le_mul hn1 d1
          have e6 : (n : Int) * d ≤ 1099511627776 := by rw [e4]; omega
          have e7 : 0 ≤ (n : Int) * d := by rw [e4]; omega
          clear hS e1 e4
          go_wp2
          go_roundw
          case rel => exact ⟨k + 1, n * d, by omega, by go_num, by simp, e5, e3, hE, (X.alloc _).drewN _, below_drewN (hB2.alloc hB2.size _) _⟩
          case measure => simp [intOf]; omega
      · have hE := HS.out.2 (by rw [he]; simp)
        subst he
        subst hE
        clear HS hfa
        go_wp2
        go_ret2
        exact ⟨rfl, hB2.alloc hB2.size _⟩
    · have : k = L.length + 1 := by omega
      subst this
      have hE := hP.out
      rw [shaftL_end] at hE
      subst hE
      go_wp2
      go_ret2
      exact ⟨rfl, hB⟩

theorem rperiod_any (A : Option Addr) (c : Nat) (L : List Mesh) (w : World) (hL : RowAt w A (meshCells L)) (hcm : L.length ≤ 9223372036854775807) :
    Calls Try.prog 21 #[.agg #[.slice A L.length c]] w fun e w' => e = .returned (pairV (periodR L)) ∧ Below w.heap.size w w' := by
  by_cases hok : okTrain L = true
  · obtain ⟨k1, _, _⟩ := ok_train hok
    obtain ⟨b, off, rfl, _⟩ := hL (by rw [meshCells_len]; omega)
    rw [periodR, if_pos hok]
    exact rperiod_ok b off c L w hL hok
  · have hok' : okTrain L = false := by simpa using hok
    rw [periodR, if_neg hok]
    go_enter Try.func21, Try.ntmps21
    go_wp2_with fail
    refine (rvalidTrain_any _ _ _ _ (hL.alloc _) hcm).mono ?_
    rintro e w1 ⟨rfl, hb1⟩
    have hB1 : Below w.heap.size w w1 := ((Below.refl _ _).alloc (Nat.le_refl _) _).trans (hb1.mono (by simp))
    clear hb1
    rw [hok']
    go_wp2
    go_ret2
    exact ⟨rfl, hB1⟩

end Go.Proofs.Ytheifigkclegdaa
