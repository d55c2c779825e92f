/-
  What is proved: the contract of gears.Period.
-/
import Derived.Test.YtheifigkclegdaaTeeth
namespace Go.Proofs.Ytheifigkclegdaa
open Go.RowKit

/-- The least common multiple of n and the denominators, or none if a ratio is an error or a number is too great. -/
def perGo : List Res → Nat → Option Nat
  | [], n => some n
  | r :: rs, n => if r.err = 0 then (if 1099511627776 / (r.den / Nat.gcd n r.den) < n then none else perGo rs (n * (r.den / Nat.gcd n r.den))) else none
def shaftL (L : List Mesh) : List Res := (List.range (L.length + 1)).map (shaftR L)
def perV : Option Nat → Int × Int
  | some n => (n, 0)
  | none => (0, 2)
def periodR (L : List Mesh) : Int × Int := if okTrain L then perV (perGo (shaftL L) 1) else (0, 70)

theorem perGo_bad : ∀ (rs : List Res) (n : Nat), (∃ r ∈ rs, r.err ≠ 0) → perGo rs n = none
  | [], _, h => by obtain ⟨r, hr, _⟩ := h; cases hr
  | r :: rs, n, h => by
    unfold perGo
    by_cases he : r.err = 0
    · rw [if_pos he]
      split
      · rfl
      · refine perGo_bad rs _ ?_
        obtain ⟨r', hr, h'⟩ := h
        rcases List.mem_cons.1 hr with rfl | hr
        · exact absurd he h'
        · exact ⟨r', hr, h'⟩
    · rw [if_neg he]
theorem perGo_all {L : List Mesh} (h : ¬ shaftsOK L (L.length + 1)) : perGo (shaftL L) 1 = none := by
  refine perGo_bad _ _ ?_
  unfold shaftsOK at h
  simp only [Classical.not_forall] at h
  obtain ⟨i, hi, he⟩ := h
  exact ⟨shaftR L i, List.mem_map.2 ⟨i, List.mem_range.2 hi, rfl⟩, he⟩
theorem shaftL_drop {L : List Mesh} {k : Nat} (hk : k < L.length + 1) : (shaftL L).drop k = shaftR L k :: (shaftL L).drop (k + 1) := by
  have hl : k < (shaftL L).length := by simp [shaftL, hk]
  rw [List.drop_eq_getElem_cons hl]
  simp [shaftL]
theorem shaftL_end (L : List Mesh) : (shaftL L).drop (L.length + 1) = [] := by
  rw [List.drop_eq_nil_iff]; simp [shaftL]
/-- One step of the period. -/
theorem per_step {L : List Mesh} {k n : Nat} {M : Option Nat} (hk : k < L.length + 1) (he : (shaftR L k).err = 0) (h : perGo ((shaftL L).drop k) n = M) :
    (1099511627776 / ((shaftR L k).den / Nat.gcd n (shaftR L k).den) < n → M = none) ∧
    (¬ 1099511627776 / ((shaftR L k).den / Nat.gcd n (shaftR L k).den) < n → perGo ((shaftL L).drop (k + 1)) (n * ((shaftR L k).den / Nat.gcd n (shaftR L k).den)) = M) := by
  rw [shaftL_drop hk] at h
  unfold perGo at h
  rw [if_pos he] at h
  constructor
  · intro h1; rw [if_pos h1] at h; exact h.symm
  · intro h1; rw [if_neg h1] at h; exact h

theorem per_fits {n d : Nat} (hd : 1 ≤ d) (h : ¬ 1099511627776 / d < n) : n * d ≤ 1099511627776 :=
  (Nat.le_div_iff_mul_le (by omega)).1 (by omega)

set_option maxRecDepth 100000 in
set_option maxHeartbeats 4000000 in
theorem period_ok (b off c : Nat) (L : List Mesh) (w : World) (hL : RowAt w (some ⟨b, off, none⟩) (meshCells L)) (hc : L.length ≤ c) (hcm : c ≤ 9223372036854775807) (hok : okTrain L = true) :
    Calls Try.prog 20 #[.agg #[.slice (some ⟨b, off, none⟩) L.length c]] w fun e w' => e = .returned (pairV (perV (perGo (shaftL L) 1))) ∧ Below w.heap.size w w' := by
  obtain ⟨k1, k2, _⟩ := ok_train hok
  have HL := Lib.hid (And.intro hL hok)
  clear hL hok
  have hLn : L.length ≤ 9223372036854775807 := by omega
  generalize hM : perGo (shaftL L) 1 = M
  have HM := Lib.hid hM
  clear hM
  go_enter Try.func20, Try.ntmps20
  go_wp2_with fail
  refine (validTrain_any _ _ _ _ (HL.out.1.alloc _) hLn).mono ?_
  rintro e w1 ⟨rfl, hb1⟩
  have T : Bk w1 w.heap.size 24 #[.slice (some ⟨b, off, none⟩) L.length c] := (bk_last rfl).keep hb1
  have hB1 : Below w.heap.size w w1 := ((Below.refl _ _).alloc (Nat.le_refl _) _).trans (hb1.mono (by simp))
  clear hb1
  rw [HL.out.2]
  have t0 := T.cell 0
  simp at t0
  go_wp2_with fail
  refine (shafts_any _ _ _ _ _ (HL.out.1.below hB1) HL.out.2 hc hcm).mono ?_
  rintro e w2 ⟨hb2, ⟨hsh, v, rfl, hown⟩ | ⟨hsh, rfl⟩⟩
  · obtain ⟨g, cap, rfl, hg, hgl, hrow⟩ := shafts_row hown (by omega)
    clear t0 hown T
    have hB2 := hB1.trans (hb2.mono hB1.size)
    clear hb2 hB1
    have HR := Lib.hid (And.intro hrow hsh)
    clear hrow hsh
    have hM0 : Hid (perGo ((shaftL L).drop 0) 1 = M) := HM.out
    go_wp2
    go_loopw [6, 23] (fun x i wr => ∃ k n : Nat, k ≤ L.length + 1 ∧ i = .int .i64 k ∧ x = .int .i64 n ∧ 1 ≤ n ∧ n ≤ 1099511627776 ∧ Hid (perGo ((shaftL L).drop k) n = M) ∧ Below w2.heap.size w2 wr) (fun _ i _ => L.length + 1 - (intOf i).toNat)
    case atStart => exact ⟨0, 1, Nat.zero_le _, rfl, rfl, by omega, by omega, hM0, Below.refl _ _⟩
    case round =>
      obtain ⟨k, n, hk, rfl, rfl, hn1, hn2, hP, hB⟩ := hrel
      have hBw : Below w.heap.size w wr := hB2.trans (hB.mono hB2.size)
      by_cases hlt : k < L.length + 1
      · obtain ⟨x1, x2⟩ := HR.out.1 k hlt
        replace x1 := keepc hB x1
        replace x2 := keepc hB x2
        obtain ⟨f1, f2, f3⟩ := shaft_fit HL.out.2 HR.out.2 k hlt
        have hS := Lib.hid (per_step hlt (HR.out.2 k hlt) hP.out)
        clear hP
        generalize shaftR L k = r at *
        obtain ⟨rn, rd, re⟩ := r
        simp only at x1 x2 f1 f2 f3
        have g0 : 0 < Nat.gcd n rd := Nat.gcd_pos_of_pos_right _ (by omega)
        have g1 : 1 ≤ ((Nat.gcd n rd : Nat) : Int) := by omega
        have g2 : (((Nat.gcd n rd : Nat) : Int) == 0) = false := by simp; omega
        have d1 : 1 ≤ rd / Nat.gcd n rd := Nat.div_pos (Nat.gcd_le_right _ (by omega)) g0
        have d2 : rd / Nat.gcd n rd ≤ rd := Nat.div_le_self _ _
        have hd : (rd : Int) / ((Nat.gcd n rd : Nat) : Int) = ((rd / Nat.gcd n rd : Nat) : Int) := by simp
        generalize hdd : rd / Nat.gcd n rd = d at *
        have d3 : (1 : Int) ≤ (d : Int) := by omega
        have d4 : ((d : Int) == 0) = false := by simp; omega
        have hsz := hB.size
        have q0 : (wr.alloc (Obj.cells #[Value.int IntKind.i64 rn, Value.int IntKind.i64 rd] 42)).cell? ⟨wr.heap.size, 1, none⟩ = some (.int .i64 rd) := by simp
        go_wp2
        go_quiet ((go_at_call 66; refine Calls.quiet_of (gcd_any _ _ _ (by omega) (by omega))))
        clear g0 g1 g2 hd hdd
        have e1 : (1099511627776 : Int) / (d : Int) = ((1099511627776 / d : Nat) : Int) := by simp
        by_cases hgt : 1099511627776 / d < n
        · have e2 : (1099511627776 : Int) / (d : Int) < (n : Int) := by rw [e1]; omega
          have hE := hS.out.1 hgt
          clear hS e1
          go_wp2
          go_ret2
          subst hE
          exact ⟨rfl, below_drewN (hBw.alloc hBw.size _) _⟩
        · have e2 : ¬ (1099511627776 : Int) / (d : Int) < (n : Int) := by rw [e1]; omega
          have hE : Hid (perGo ((shaftL L).drop (k + 1)) (n * d) = M) := hS.out.2 hgt
          have e3 := per_fits d1 hgt
          have e4 : (n : Int) * d = ((n * d : Nat) : Int) := by simp
          have e5 : 1 ≤ n * d := Nat.mul_le_mul hn1 d1
          have e6 : (n : Int) * d ≤ 1099511627776 := by rw [e4]; omega
          have e7 : 0 ≤ (n : Int) * d := by rw [e4]; omega
          clear hS e1 e4
          go_wp2
          go_roundw
          case rel => exact ⟨k + 1, n * d, by omega, by go_num, by simp, e5, e3, hE, below_drewN (hB.alloc hB.size _) _⟩
          case measure => simp [intOf]; omega
      · have : k = L.length + 1 := by omega
        subst this
        have hE := hP.out
        rw [shaftL_end] at hE
        unfold perGo at hE
        go_wp2
        go_ret2
        subst hE
        exact ⟨rfl, hBw⟩
  · have hE := HM.out.symm.trans (perGo_all hsh)
    go_wp2_with fail
    go_ret2
    subst hE
    exact ⟨rfl, hB1.trans (hb2.mono hB1.size)⟩

/-- gears.Period. -/
theorem period_any (A : Option Addr) (c : Nat) (L : List Mesh) (w : World) (hL : RowAt w A (meshCells L)) (hc : L.length ≤ c) (hcm : c ≤ 9223372036854775807) :
    Calls Try.prog 20 #[.agg #[.slice A L.length c]] w fun e w' => e = .returned (pairV (periodR L)) ∧ Below w.heap.size w w' := by
  by_cases hok : okTrain L = true
  · obtain ⟨k1, _, _⟩ := ok_train hok
    obtain ⟨b, off, rfl, _⟩ := hL (by rw [meshCells_len]; omega)
    have h := period_ok b off c L w hL hc hcm hok
    unfold periodR
    rwa [if_pos hok]
  · have hok' : okTrain L = false := by simpa using hok
    have HV : Hid (periodR L = (0, 70)) := by unfold Hid periodR; rw [if_neg hok]
    rw [HV.out]
    clear hok
    go_enter Try.func20, Try.ntmps20
    go_wp2_with fail
    refine (validTrain_any _ _ _ _ (hL.alloc _) (by omega)).mono ?_
    rintro e w1 ⟨rfl, hb1⟩
    have hb2 : Below w.heap.size w w1 := ((Below.refl _ _).alloc (Nat.le_refl _) _).trans (hb1.mono (by simp))
    rw [hok']
    clear hb1
    go_wp2
    go_ret2
    exact ⟨rfl, hb2⟩

end Go.Proofs.Ytheifigkclegdaa
