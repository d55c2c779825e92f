/-
  What is proved: the contract of gears.runner.where.
-/
import Derived.Test.YtheifigkclegdaaTeeth
namespace Go.Proofs.Ytheifigkclegdaa
open Go.RowKit

/-- The sectors at which the runner may stand: its turns r, its play p. -/
def spanR (r p : Res) (sec t : Nat) : Int × Int :=
  (((t * r.num * sec / r.den : Nat) : Int) - ((p.num * sec / p.den : Nat) : Int) - (if t * r.num * sec % r.den * p.den < p.num * sec % p.den * r.den then 1 else 0), ((t * r.num * sec / r.den : Nat) : Int))

theorem mul_le_int {a b x y : Nat} (ha : a ≤ x) (hb : b ≤ y) : 0 ≤ (a : Int) * b ∧ (a : Int) * b ≤ ((x * y : Nat) : Int) := by
  have h1 : a * b ≤ x * y := Nat.mul_le_mul ha hb
  have e1 : (a : Int) * b = ((a * b : Nat) : Int) := by simp
  rw [e1]
  omega

set_option maxRecDepth 100000 in
set_option maxHeartbeats 4000000 in
theorem where_any (g t sec : Nat) (r p : Res) (w : World) (h0 : w.cell? ⟨g, 0, none⟩ = some (.int .i64 r.num)) (h1 : w.cell? ⟨g, 1, none⟩ = some (.int .i64 r.den)) (h2 : w.cell? ⟨g, 2, none⟩ = some (.int .i64 p.num)) (h3 : w.cell? ⟨g, 3, none⟩ = some (.int .i64 p.den))
    (h4 : w.cell? ⟨g, 4, none⟩ = some (.int .i64 sec)) (ht : t ≤ 1000000) (hs : sec ≤ 96) (hr : r.num ≤ 1000000000) (hr1 : 1 ≤ r.den) (hr2 : r.den ≤ 1000000000) (hp : p.num ≤ 1000000000) (hp1 : 1 ≤ p.den) (hp2 : p.den ≤ 1000000000) :
    Calls Try.prog 70 #[.pointer (some ⟨g, 0, none⟩), .int .i64 t] w fun e w' => e = .returned (.agg #[.int .i64 (spanR r p sec t).1, .int .i64 (spanR r p sec t).2]) ∧ Below w.heap.size w w' := by
  obtain ⟨rn, rd, re⟩ := r
  obtain ⟨pn, pd, pe⟩ := p
  simp only at h0 h1 h2 h3 hr hr1 hr2 hp hp1 hp2
  have a1 : t * rn ≤ 1000000000000000 := Nat.le_trans (Nat.mul_le_mul ht hr) (by omega)
  obtain ⟨m1, m2⟩ := mul_le_int ht hr
  obtain ⟨m3, m4⟩ := mul_le_int a1 hs
  obtain ⟨m5, m6⟩ := mul_le_int hp hs
  obtain ⟨Q, hQ⟩ : ∃ Q, Q = t * rn * sec := ⟨_, rfl⟩
  obtain ⟨P, hP⟩ : ∃ P, P = pn * sec := ⟨_, rfl⟩
  have eQ : (t : Int) * rn * sec = (Q : Int) := by rw [hQ]; simp
  have eP : (pn : Int) * sec = (P : Int) := by rw [hP]; simp
  have m3' : (Q : Int) ≤ 96000000000000000 := by rw [← eQ]; simpa using m4
  have m5' : (P : Int) ≤ 96000000000 := by rw [← eP]; simpa using m6
  have b1 : Q % rd ≤ 1000000000 := by have := Nat.mod_lt Q (show rd > 0 by omega); omega
  have b2 : P % pd ≤ 1000000000 := by have := Nat.mod_lt P (show pd > 0 by omega); omega
  obtain ⟨n1, n2⟩ := mul_le_int b1 hp2
  obtain ⟨n3, n4⟩ := mul_le_int b2 hr2
  have c1 : Q / rd ≤ Q := Nat.div_le_self _ _
  have c2 : P / pd ≤ P := Nat.div_le_self _ _
  have HV : Hid (spanR ⟨rn, rd, re⟩ ⟨pn, pd, pe⟩ sec t = (((Q / rd : Nat) : Int) - ((P / pd : Nat) : Int) - (if Q % rd * pd < P % pd * rd then 1 else 0), ((Q / rd : Nat) : Int))) := by
    unfold Hid spanR
    rw [hQ, hP]
  clear hQ hP a1 m4 m6 hp hr
  rw [HV.out]
  have eH : (Q : Int) / (rd : Int) = ((Q / rd : Nat) : Int) := by simp
  have eD : (P : Int) / (pd : Int) = ((P / pd : Nat) : Int) := by simp
  have eA : (Q : Int) % (rd : Int) = ((Q % rd : Nat) : Int) := by simp
  have eB : (P : Int) % (pd : Int) = ((P % pd : Nat) : Int) := by simp
  have dr1 : (1 : Int) ≤ (rd : Int) := by omega
  have dr2 : ((rd : Int) == 0) = false := by simp; omega
  have dp1 : (1 : Int) ≤ (pd : Int) := by omega
  have dp2 : ((pd : Int) == 0) = false := by simp; omega
  generalize Q / rd = H at *
  generalize P / pd = D at *
  generalize Q % rd = A at *
  generalize P % pd = B at *
  have ei : (A * pd < B * rd) = ((A : Int) * pd < (B : Int) * rd) := by
    have e1 : (A : Int) * pd = ((A * pd : Nat) : Int) := by simp
    have e2 : (B : Int) * rd = ((B * rd : Nat) : Int) := by simp
    rw [e1, e2]
    simp only [Int.ofNat_lt]
  have EI := Lib.hid ei
  clear ei HV
  have hlt := World.block_lt_of_cell? w _ h0
  simp only at hlt
  by_cases hn : A * pd < B * rd
  · rw [if_pos hn]
    have hlt2 : (A : Int) * pd < (B : Int) * rd := by rw [← EI.out]; exact hn
    clear hn EI
    have hd2 : decide ((A : Int) * pd < (B : Int) * rd) = true := by simpa using hlt2
    go_enter Try.func70, Try.ntmps70
    go_wp2
    go_quiet (fail)
    go_wp2
    go_quiet (fail)
    go_wp2
    refine bodyPost_ret (v := .agg #[.int .i64 ((H : Int) - D - 1), .int .i64 H]) (by simp [results, Try.results70, go_sem]) rfl ⟨rfl, ?_⟩
    exact ((below_drewN ((Below.refl _ _).alloc (Nat.le_refl _) _) _).setCell (by simp) _).setCell (by simp) _
  · rw [if_neg hn]
    have hlt2 : ¬ (A : Int) * pd < (B : Int) * rd := by rw [← EI.out]; exact hn
    clear hn EI
    have hd2 : decide ((A : Int) * pd < (B : Int) * rd) = false := by simpa using hlt2
    go_enter Try.func70, Try.ntmps70
    go_wp2
    go_quiet (fail)
    go_wp2
    go_quiet (fail)
    go_wp2
    refine bodyPost_ret (v := .agg #[.int .i64 ((H : Int) - D), .int .i64 H]) (by simp [results, Try.results70, go_sem]) rfl ⟨by simp, ?_⟩
    exact ((below_drewN ((Below.refl _ _).alloc (Nat.le_refl _) _) _).setCell (by simp) _).setCell (by simp) _

end Go.Proofs.Ytheifigkclegdaa
