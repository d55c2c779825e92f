/-
  What is proved: the contracts of gears.Grips, Hunting and Meets.
-/
import Derived.Test.YtheifigkclegdaaStands
import Derived.WalkMore
import Derived.ScopeJumps
namespace Go.Proofs.Ytheifigkclegdaa
open Go.RowKit

def gripsN (m : Mesh) : Nat := m.dr.toNat * m.dn.toNat / Nat.gcd m.dr.toNat m.dn.toNat
def gripsR (m : Mesh) : Int × Int := if m.ok then ((gripsN m : Nat), 0) else (0, 70)
def pairV (p : Int × Int) : Value := .tuple #[.int .i64 p.1, .int .i64 p.2]

theorem ok_nat {x y z : Int} (h : Mesh.ok ⟨x, y, z⟩ = true) : ∃ a b : Nat, x = a ∧ y = b ∧ 1 ≤ a ∧ a ≤ 4096 ∧ 1 ≤ b ∧ b ≤ 4096 := by
  have := ok_mesh h
  simp only at this
  exact ⟨x.toNat, y.toNat, by omega, by omega, by omega, by omega, by omega, by omega⟩

theorem mul_4096 {a b : Nat} (ha : a ≤ 4096) (hb : b ≤ 4096) : (a : Int) * b ≤ 16777216 ∧ 0 ≤ (a : Int) * b := by
  have h1 : a * b ≤ 4096 * 4096 := Nat.mul_le_mul ha hb
  have e1 : (a : Int) * b = ((a * b : Nat) : Int) := by simp
  rw [e1]
  omega

set_option maxHeartbeats 1000000 in
theorem grips_any (x y z : Int) (w : World) :
    Calls Try.prog 29 #[.agg #[.int .i64 x, .int .i64 y, .int .i64 z]] w fun e w' => e = .returned (pairV (gripsR ⟨x, y, z⟩)) ∧ Below w.heap.size w w' := by
  by_cases hok : Mesh.ok ⟨x, y, z⟩ = true
  · obtain ⟨a, b, rfl, rfl, ha1, ha2, hb1, hb2⟩ := ok_nat hok
    obtain ⟨m1, m2⟩ := mul_4096 ha2 hb2
    have g0 : 0 < Nat.gcd a b := Nat.gcd_pos_of_pos_right _ (by omega)
    have g1 : 1 ≤ ((Nat.gcd a b : Nat) : Int) := by omega
    have g2 : (((Nat.gcd a b : Nat) : Int) == 0) = false := by simp; omega
    have HV : Hid ((a : Int) * b / ((Nat.gcd a b : Nat) : Int) = (gripsN ⟨a, b, z⟩ : Nat)) := by unfold Hid gripsN; simp
    have q1 : 0 ≤ (a : Int) * b / ((Nat.gcd a b : Nat) : Int) := Int.ediv_nonneg m2 (by omega)
    have q2 : (a : Int) * b / ((Nat.gcd a b : Nat) : Int) ≤ 16777216 := Int.le_trans (Int.ediv_le_self _ m2) m1
    have HR : Hid (gripsR ⟨a, b, z⟩ = (((gripsN ⟨a, b, z⟩ : Nat) : Int), 0)) := by unfold Hid gripsR; rw [if_pos hok]
    rw [HR.out]
    go_enter Try.func29, Try.ntmps29
    go_wp2_with fail
    refine (validMesh_any _ _ _ _).mono ?_
    rintro e w1 ⟨rfl, hb1⟩
    have M : Bk w1 w.heap.size 36 #[.int .i64 a, .int .i64 b, .int .i64 z] := (bk_last rfl).keep hb1
    have hB1 : Below w.heap.size w w1 := ((Below.refl _ _).alloc (Nat.le_refl _) _).trans (hb1.mono (by simp))
    clear hb1
    have c0 := M.cell 0
    have c1 := M.cell 1
    simp at c0 c1
    rw [hok]
    go_wp2
    go_quiet ((go_at_call 66; refine Calls.quiet_of (gcd_any _ _ _ (by omega) (by omega))))
    go_wp2
    go_ret2
    exact ⟨by rw [HV.out]; rfl, below_drewN hB1 _⟩
  · have hok' : Mesh.ok ⟨x, y, z⟩ = false := by simpa using hok
    go_enter Try.func29, Try.ntmps29
    go_wp2_with fail
    refine (validMesh_any _ _ _ _).mono ?_
    rintro e w1 ⟨rfl, hb1⟩
    have hB1 : Below w.heap.size w w1 := ((Below.refl _ _).alloc (Nat.le_refl _) _).trans (hb1.mono (by simp))
    clear hb1
    rw [hok']
    go_wp2
    go_ret2
    exact ⟨by simp [gripsR, hok', pairV], hB1⟩

/-- Whether all pairs of teeth meet. -/
def huntR (m : Mesh) : Bool × Int := if m.ok then (decide (Nat.gcd m.dr.toNat m.dn.toNat = 1), 0) else (false, 70)

theorem grips_all {a b : Nat} (ha : 1 ≤ a) (hb : 1 ≤ b) : a * b / Nat.gcd a b = a * b ↔ Nat.gcd a b = 1 := by
  have hp : 1 ≤ a * b := Nat.mul_le_mul ha hb
  constructor
  · intro h
    have g0 : 0 < Nat.gcd a b := Nat.gcd_pos_of_pos_right _ (by omega)
    rcases Nat.lt_or_ge 1 (Nat.gcd a b) with h1 | h1
    · have := Nat.div_lt_self (show 0 < a * b by omega) h1
      omega
    · omega
  · intro h
    rw [h, Nat.div_one]

set_option maxHeartbeats 1000000 in
theorem hunting_any (x y z : Int) (w : World) :
    Calls Try.prog 27 #[.agg #[.int .i64 x, .int .i64 y, .int .i64 z]] w fun e w' => e = .returned (.tuple #[.bool (huntR ⟨x, y, z⟩).1, .int .i64 (huntR ⟨x, y, z⟩).2]) ∧ Below w.heap.size w w' := by
  by_cases hok : Mesh.ok ⟨x, y, z⟩ = true
  · obtain ⟨a, b, rfl, rfl, ha1, ha2, hb1, hb2⟩ := ok_nat hok
    obtain ⟨m1, m2⟩ := mul_4096 ha2 hb2
    have HR : Hid (gripsR ⟨a, b, z⟩ = (((gripsN ⟨a, b, z⟩ : Nat) : Int), 0)) := by unfold Hid gripsR; rw [if_pos hok]
    have HV : Hid (decide (((gripsN ⟨a, b, z⟩ : Nat) : Int) = (a : Int) * b) = (huntR ⟨a, b, z⟩).1 ∧ (huntR ⟨a, b, z⟩).2 = 0) := by
      refine ⟨?_, by simp [huntR, hok]⟩
      simp only [huntR, hok, if_true]
      rw [decide_eq_decide, ← grips_all (by simpa using ha1) (by simpa using hb1)]
      have e1 : (a : Int) * b = ((a * b : Nat) : Int) := by simp
      rw [e1]
      simp only [gripsN, Int.toNat_natCast]
      omega
    go_enter Try.func27, Try.ntmps27
    go_wp2_with fail
    refine (grips_any _ _ _ _).mono ?_
    rintro e w1 ⟨rfl, hb1⟩
    have M : Bk w1 w.heap.size 36 #[.int .i64 a, .int .i64 b, .int .i64 z] := (bk_last rfl).keep hb1
    have hB1 : Below w.heap.size w w1 := ((Below.refl _ _).alloc (Nat.le_refl _) _).trans (hb1.mono (by simp))
    clear hb1
    have c0 := M.cell 0
    have c1 := M.cell 1
    simp at c0 c1
    rw [HR.out]
    unfold pairV
    generalize gripsN ⟨a, b, z⟩ = g at *
    by_cases hq : (g : Int) = (a : Int) * b
    all_goals
      go_wp2
      go_ret2
      refine ⟨?_, hB1⟩
      rw [← HV.out.1, HV.out.2]
      simp [hq]
  · have hok' : Mesh.ok ⟨x, y, z⟩ = false := by simpa using hok
    have HR : Hid (gripsR ⟨x, y, z⟩ = (0, 70)) := by unfold Hid gripsR; rw [if_neg hok]
    go_enter Try.func27, Try.ntmps27
    go_wp2_with fail
    refine (grips_any _ _ _ _).mono ?_
    rintro e w1 ⟨rfl, hb1⟩
    have hB1 : Below w.heap.size w w1 := ((Below.refl _ _).alloc (Nat.le_refl _) _).trans (hb1.mono (by simp))
    clear hb1
    rw [HR.out]
    unfold pairV
    go_wp2
    go_ret2
    exact ⟨by simp [huntR, hok'], hB1⟩

/-- The first n from n on, by steps of dr, below many, whose remainder by dn is cog. -/
def meetAt (many dr dn cog n : Nat) : Option Nat :=
  if _h : n < many ∧ 0 < dr then (if n % dn = cog then some n else meetAt many dr dn cog (n + dr)) else none
  termination_by many - n
  decreasing_by omega

theorem meetAt_none {many dr dn cog n : Nat} (h : many ≤ n) : meetAt many dr dn cog n = none := by
  rw [meetAt, dif_neg (by omega)]
theorem meetAt_hit {many dr dn cog n : Nat} (h : n < many) (hd : 0 < dr) (hc : n % dn = cog) : meetAt many dr dn cog n = some n := by
  rw [meetAt, dif_pos ⟨h, hd⟩, if_pos hc]
theorem meetAt_next {many dr dn cog n : Nat} (h : n < many) (hd : 0 < dr) (hc : ¬ n % dn = cog) : meetAt many dr dn cog (n + dr) = meetAt many dr dn cog n := by
  rw [meetAt.eq_1 many dr dn cog n, dif_pos ⟨h, hd⟩, if_neg hc]

def meetV : Option Nat → Int × Int
  | some n => (n, 0)
  | none => (0, 3)
def meetsR (m : Mesh) (tooth cog : Int) : Int × Int :=
  if m.ok then
    if inB tooth 0 (m.dr - 1) && inB cog 0 (m.dn - 1) then meetV (meetAt (gripsN m) m.dr.toNat m.dn.toNat cog.toNat tooth.toNat)
    else (0, 1)
  else (0, 70)

set_option maxHeartbeats 4000000 in
theorem meets_ok (a b t c : Nat) (z : Int) (w : World) (hok : Mesh.ok ⟨a, b, z⟩ = true) (ht : t < a) (hcb : c < b) :
    Calls Try.prog 31 #[.agg #[.int .i64 a, .int .i64 b, .int .i64 z], .int .i64 t, .int .i64 c] w fun e w' => e = .returned (pairV (meetV (meetAt (gripsN ⟨a, b, z⟩) a b c t))) ∧ Below w.heap.size w w' := by
  have hab := ok_mesh hok
  simp only at hab
  have HR : Hid (gripsR ⟨a, b, z⟩ = (((gripsN ⟨a, b, z⟩ : Nat) : Int), 0)) := by unfold Hid gripsR; rw [if_pos hok]
  have hmany : gripsN ⟨a, b, z⟩ ≤ 16777216 := by
    obtain ⟨m1, m2⟩ := mul_4096 (a := a) (b := b) (by omega) (by omega)
    have : gripsN ⟨a, b, z⟩ ≤ a * b := by unfold gripsN; simpa using Nat.div_le_self _ _
    have e1 : (a : Int) * b = ((a * b : Nat) : Int) := by simp
    omega
  have t1 : inB (t : Int) 0 ((a : Int) - 1) = true := by simp [inB]; omega
  have c1 : inB (c : Int) 0 ((b : Int) - 1) = true := by simp [inB]; omega
  have bz : ((b : Int) == 0) = false := by simp; omega
  have b1 : (1 : Int) ≤ (b : Int) := by omega
  have HM : Hid (∀ n, gripsN ⟨a, b, z⟩ = n → meetAt (gripsN ⟨a, b, z⟩) a b c t = meetAt n a b c t) := by rintro n rfl; rfl
  generalize hM : meetAt (gripsN ⟨a, b, z⟩) a b c t = M at *
  go_enter Try.func31, Try.ntmps31
  go_wp2
  refine wp_scope_jumps 0 (fun a' w' => Below w.heap.size w w' ∧ Bk w' w.heap.size 36 #[.int .i64 a, .int .i64 b, .int .i64 z] ∧ ∃ (n many : Nat), many ≤ 16777216 ∧ n ≤ 16785408 ∧ Hid (meetAt many a b c n = M) ∧ ∃ (u4 u5 u9 u11 u12 u13 u14 u15 u16 u17 u18 u19 u20 u21 u22 u23 u24 u25 u26 u27 u28 u29 u30 u31 u32 u33 u34 u35 u36 u37 u38 u39 u40 u41 u42 u43 u44 u45 u46 u47 : Value), a' = { tmps := #[.agg #[.int .i64 a, .int .i64 b, .int .i64 z], .int .i64 t, .int .i64 c, .pointer (some ⟨w.heap.size, 0, none⟩), u4, u5, .int .i64 0, .int .i64 0, .int .i64 many, u9, .int .i64 n, u11, u12, u13, u14, u15, u16, u17, u18, u19, u20, u21, u22, u23, u24, u25, u26, u27, u28, u29, u30, u31, u32, u33, u34, u35, u36, u37, u38, u39, u40, u41, u42, u43, u44, u45, u46, u47], defers := [] }) (fun a' _ => (intOf (a'.tmps.getD 8 undef)).toNat - (intOf (a'.tmps.getD 10 undef)).toNat) rfl ?_ ?_
  · go_wp2_with fail
    refine (grips_any _ _ _ _).mono ?_
    rintro e w1 ⟨rfl, hb1⟩
    have M1 : Bk w1 w.heap.size 36 #[.int .i64 a, .int .i64 b, .int .i64 z] := (bk_last rfl).keep hb1
    have hB1 : Below w.heap.size w w1 := ((Below.refl _ _).alloc (Nat.le_refl _) _).trans (hb1.mono (by simp))
    clear hb1
    have x0 := M1.cell 0
    have x1 := M1.cell 1
    simp at x0 x1
    rw [HR.out]
    unfold pairV
    have HQ : Hid (meetAt (gripsN ⟨a, b, z⟩) a b c t = M) := hM
    clear hM HR HM
    generalize gripsN ⟨a, b, z⟩ = many at *
    go_wp2_with (go_at_call 68; refine (within_any _ _ _ _).mono ?_; rintro e w' ⟨rfl, rfl⟩)
    go_step3
    have hn : t ≤ 16785408 := by omega
    obtain ⟨n, rfl⟩ : ∃ n, n = t := ⟨_, rfl⟩
    by_cases h1 : many ≤ n
    · have h2 : (many : Int) ≤ n := by omega
      have HE := HQ.out.symm.trans (meetAt_none h1)
      clear HQ
      subst HE
      go_wp2
      simp only [Exit.jump]
      go_ret2
      exact ⟨rfl, hB1⟩
    · have h2 : (n : Int) < many := by omega
      by_cases h3 : n % b = c
      · have h4 : (n : Int) % b = c := by omega
        have HE := HQ.out.symm.trans (meetAt_hit (by omega) (by omega) h3)
        clear HQ
        subst HE
        go_wp2
        simp only [Exit.jump]
        go_ret2
        exact ⟨by rw [meetV]; rfl, hB1⟩
      · have h4 : ¬ ((n : Int) % b = c) := by omega
        have HE : Hid (meetAt many a b c (n + a) = M) := (meetAt_next (by omega) (by omega) h3).trans HQ.out
        clear HQ
        have hna : ((n + a : Nat) : Int) = (n : Int) + a := by simp
        have h5 : ((n : Int) % b == c) = false := by simpa using h4
        go_wp2
        rw [← hna]
        go_step3
        exact ⟨rfl, hB1, M1, n + a, many, hmany, by omega, HE, _, _, _, _, _, _, _, _, _, _, _, _, _, _, _, _, _, _, _, _, _, _, _, _, _, _, _, _, _, _, _, _, _, _, _, _, _, _, _, _, rfl⟩
  · rintro a' w1 ⟨hB1, M1, n, many, hmany, hn, HQ, u4, u5, u9, u11, u12, u13, u14, u15, u16, u17, u18, u19, u20, u21, u22, u23, u24, u25, u26, u27, u28, u29, u30, u31, u32, u33, u34, u35, u36, u37, u38, u39, u40, u41, u42, u43, u44, u45, u46, u47, rfl⟩
    have x0 := M1.cell 0
    have x1 := M1.cell 1
    simp at x0 x1
    clear hM HR HM
    by_cases h1 : many ≤ n
    · have h2 : (many : Int) ≤ n := by omega
      have HE := HQ.out.symm.trans (meetAt_none h1)
      clear HQ
      subst HE
      go_wp2
      simp only [Exit.jump]
      go_ret2
      exact ⟨rfl, hB1⟩
    · have h2 : (n : Int) < many := by omega
      by_cases h3 : n % b = c
      · have h4 : (n : Int) % b = c := by omega
        have HE := HQ.out.symm.trans (meetAt_hit (by omega) (by omega) h3)
        clear HQ
        subst HE
        go_wp2
        simp only [Exit.jump]
        go_ret2
        exact ⟨by rw [meetV]; rfl, hB1⟩
      · have h4 : ¬ ((n : Int) % b = c) := by omega
        have HE : Hid (meetAt many a b c (n + a) = M) := (meetAt_next (by omega) (by omega) h3).trans HQ.out
        clear HQ
        have hna : ((n + a : Nat) : Int) = (n : Int) + a := by simp
        have h5 : ((n : Int) % b == c) = false := by simpa using h4
        go_wp2
        rw [← hna]
        go_step3
        exact ⟨rfl, ⟨hB1, M1, n + a, many, hmany, by omega, HE, _, _, _, _, _, _, _, _, _, _, _, _, _, _, _, _, _, _, _, _, _, _, _, _, _, _, _, _, _, _, _, _, _, _, _, _, _, _, _, _, rfl⟩, by simp [intOf]; omega⟩

set_option maxHeartbeats 1000000 in
/-- gears.Meets. -/
theorem meets_any (x y z t c : Int) (w : World) :
    Calls Try.prog 31 #[.agg #[.int .i64 x, .int .i64 y, .int .i64 z], .int .i64 t, .int .i64 c] w fun e w' => e = .returned (pairV (meetsR ⟨x, y, z⟩ t c)) ∧ Below w.heap.size w w' := by
  by_cases hok : Mesh.ok ⟨x, y, z⟩ = true
  · obtain ⟨a, b, rfl, rfl, ha1, ha2, hb1, hb2⟩ := ok_nat hok
    by_cases hin : (inB t 0 ((a : Int) - 1) && inB c 0 ((b : Int) - 1)) = true
    · have hin' := hin
      simp only [inB, Bool.and_eq_true, decide_eq_true_eq] at hin'
      obtain ⟨t', rfl⟩ := Int.eq_ofNat_of_zero_le hin'.1.1
      obtain ⟨c', rfl⟩ := Int.eq_ofNat_of_zero_le hin'.2.1
      have HR : meetsR ⟨a, b, z⟩ t' c' = meetV (meetAt (gripsN ⟨a, b, z⟩) a b c' t') := by
        unfold meetsR
        rw [if_pos hok, if_pos hin]
        simp
      rw [HR]
      exact meets_ok a b t' c' z w hok (by omega) (by omega)
    · have HR : Hid (gripsR ⟨a, b, z⟩ = (((gripsN ⟨a, b, z⟩ : Nat) : Int), 0)) := by unfold Hid gripsR; rw [if_pos hok]
      have HV : Hid (meetsR ⟨a, b, z⟩ t c = (0, 1)) := by unfold Hid meetsR; rw [if_pos hok, if_neg hin]
      rw [HV.out]
      have hin2 : inB t 0 ((a : Int) - 1) = false ∨ (inB t 0 ((a : Int) - 1) = true ∧ inB c 0 ((b : Int) - 1) = false) := by
        cases h1 : inB t 0 ((a : Int) - 1) with
        | false => exact .inl rfl
        | true => exact .inr ⟨rfl, by simpa [h1] using hin⟩
      clear hin
      go_enter Try.func31, Try.ntmps31
      go_wp2
      refine wp_scope_jumps 0 (fun _ _ => False) (fun _ _ => 0) rfl ?_ (fun _ _ h => h.elim)
      go_wp2_with fail
      refine (grips_any _ _ _ _).mono ?_
      rintro e w1 ⟨rfl, hb1⟩
      have M1 : Bk w1 w.heap.size 36 #[.int .i64 a, .int .i64 b, .int .i64 z] := (bk_last rfl).keep hb1
      have hB1 : Below w.heap.size w w1 := ((Below.refl _ _).alloc (Nat.le_refl _) _).trans (hb1.mono (by simp))
      clear hb1
      have x0 := M1.cell 0
      have x1 := M1.cell 1
      simp at x0 x1
      rw [HR.out]
      unfold pairV
      rcases hin2 with h1 | ⟨h1, h2⟩
      all_goals
        go_wp2_with (go_at_call 68; refine (within_any _ _ _ _).mono ?_; rintro e w' ⟨rfl, rfl⟩)
        simp only [Exit.jump]
        go_ret2
        exact ⟨rfl, hB1⟩
  · have hok' : Mesh.ok ⟨x, y, z⟩ = false := by simpa using hok
    have HR : Hid (gripsR ⟨x, y, z⟩ = (0, 70)) := by unfold Hid gripsR; rw [if_neg hok]
    have HV : Hid (meetsR ⟨x, y, z⟩ t c = (0, 70)) := by unfold Hid meetsR; rw [if_neg hok]
    rw [HV.out]
    go_enter Try.func31, Try.ntmps31
    go_wp2
    refine wp_scope_jumps 0 (fun _ _ => False) (fun _ _ => 0) rfl ?_ (fun _ _ h => h.elim)
    go_wp2_with fail
    refine (grips_any _ _ _ _).mono ?_
    rintro e w1 ⟨rfl, hb1⟩
    have hB1 : Below w.heap.size w w1 := ((Below.refl _ _).alloc (Nat.le_refl _) _).trans (hb1.mono (by simp))
    clear hb1
    rw [HR.out]
    unfold pairV
    go_wp2
    simp only [Exit.jump]
    go_ret2
    exact ⟨rfl, hB1⟩

end Go.Proofs.Ytheifigkclegdaa
