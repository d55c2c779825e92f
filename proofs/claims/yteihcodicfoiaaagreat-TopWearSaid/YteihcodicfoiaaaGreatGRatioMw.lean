/-
  What is proved: the contract of gears.RatioOf.
-/
import Derived.Test.YteihcodicfoiaaaGreatMw1
import Derived.Test.YteihcodicfoiaaaGreatMw8
namespace Go.Proofs.YteihcodicfoiaaaGreat
open Go.RowKit
open Go.RowKit

theorem within_any (n lo hi : Int) (w : World) :
    Calls Tryz.prog 54 #[.int .i64 n, .int .i64 lo, .int .i64 hi] w fun e w' => e = .returned (.bool (inB n lo hi)) ∧ w = w' := by
  go_enter Tryz.func54, Tryz.ntmps54
  go_wp2
  all_goals
    go_ret
    exact ⟨ret_bool (by simp [inB]; try omega), rfl⟩

/-- Go's Euclid, on numbers from 0 on. -/
theorem gcd_any (a b : Nat) (w : World) (ha : a ≤ 9223372036854775807) (hb : b ≤ 9223372036854775807) :
    Calls Tryz.prog 59 #[.int .i64 a, .int .i64 b] w fun e w' => e = .returned (.int .i64 (Nat.gcd a b)) ∧ ∃ n, w' = w.drewN n := by
  go_enter Tryz.func59, Tryz.ntmps59
  go_wp2
  go_loopw [0, 1] (fun x y wr => ∃ p q : Nat, p ≤ 9223372036854775807 ∧ q ≤ 9223372036854775807 ∧ x = .int .i64 p ∧ y = .int .i64 q ∧ Hid (Nat.gcd p q = Nat.gcd a b) ∧ ∃ n, wr = w.drewN n) (fun _ y _ => (intOf y).toNat)
  case atStart => exact ⟨a, b, ha, hb, rfl, rfl, rfl, 0, rfl⟩
  case round =>
    obtain ⟨p, q, hp, hq, rfl, rfl, hg, n, rfl⟩ := hrel
    by_cases h0 : q = 0
    · subst h0
      go_wp2
      go_ret
      exact ⟨ret_int (by have := hg.out; simp at this; rw [this]), n, rfl⟩
    · have h1 : (0 : Int) < q := by omega
      have hqz : ((q : Int) == 0) = false := by simp; omega
      have hqn : ((q : Int) != 0) = true := by simp; omega
      go_wp2
      go_quiet (fail)
      go_wp2
      go_roundw
      case rel => exact ⟨q, p % q, hq, by have := Nat.mod_lt p (show q > 0 by omega); omega, rfl, by simp, by unfold Hid; rw [← hg.out, Nat.gcd_comm p q, Nat.gcd_rec q p, Nat.gcd_comm], _, World.drewN_drewN _ _ _⟩
      case measure => simp [intOf]; have := Nat.mod_lt p (show q > 0 by omega); omega

open Go.RowKit

/-- A mesh as data. -/
structure Mesh where
  dr : Int
  dn : Int
  pl : Int

def Mesh.val (m : Mesh) : Value := .agg #[.int .i64 m.dr, .int .i64 m.dn, .int .i64 m.pl]
def Mesh.ok (m : Mesh) : Bool := inB m.dr 1 4096 && inB m.dn 1 4096 && inB m.pl 0 1000

/-- .. as these meshes. -/
def meshCells (L : List Mesh) : List Value := L.flatMap fun m => [.int .i64 m.dr, .int .i64 m.dn, .int .i64 m.pl]

theorem meshCells_len (L : List Mesh) : (meshCells L).length = L.length * 3 := flat_len _ 3 (fun _ => rfl) L

theorem RowAt.mesh {w : World} {A : Option Addr} {L : List Mesh} (h : RowAt w A (meshCells L)) (h0 : 0 < L.length) :
    ∃ b off, A = some ⟨b, off, none⟩ ∧ b < w.heap.size ∧ ∀ k (hk : k < L.length), w.cell? ⟨b, off + k * 3, none⟩ = some (.int .i64 L[k].dr) ∧ w.cell? ⟨b, off + k * 3 + 1, none⟩ = some (.int .i64 L[k].dn) ∧ w.cell? ⟨b, off + k * 3 + 2, none⟩ = some (.int .i64 L[k].pl) := by
  obtain ⟨b, off, e, hb, hc⟩ := h (by rw [meshCells_len]; omega)
  refine ⟨b, off, e, hb, fun k hk => ⟨?_, ?_, ?_⟩⟩
  · exact hc (k * 3) _ (by rw [← Nat.add_zero (k * 3)]; exact flat_get _ 3 (fun _ => rfl) (by omega) L k 0 hk (by omega))
  · exact hc (k * 3 + 1) _ (flat_get _ 3 (fun _ => rfl) (by omega) L k 1 hk (by omega))
  · exact hc (k * 3 + 2) _ (flat_get _ 3 (fun _ => rfl) (by omega) L k 2 hk (by omega))

set_option maxHeartbeats 400000 in
theorem validMesh_any (x y z : Int) (w : World) :
    Calls Tryz.prog 57 #[.agg #[.int .i64 x, .int .i64 y, .int .i64 z]] w fun e w' => e = .returned (.bool (Mesh.ok ⟨x, y, z⟩)) ∧ Below w.heap.size w w' := by
  go_enter Tryz.func57, Tryz.ntmps57
  go_wp2_with (go_at_call 54; refine (within_any _ _ _ _).mono ?_; rintro e w' ⟨rfl, rfl⟩)
  all_goals
    go_ret
    exact ⟨ret_bool (by simp [Mesh.ok, *]), by go_grown⟩

set_option maxHeartbeats 400000 in
theorem badMesh_any (x y z : Int) (w : World) :
    Calls Tryz.prog 56 #[.agg #[.int .i64 x, .int .i64 y, .int .i64 z]] w fun e w' => e = .returned (.bool (!Mesh.ok ⟨x, y, z⟩)) ∧ Below w.heap.size w w' := by
  go_enter Tryz.func56, Tryz.ntmps56
  go_wp2_with (go_at_call 57; refine (validMesh_any _ _ _ _).mono ?_; rintro e w' ⟨rfl, hb⟩)
  all_goals
    go_ret
    exact ⟨rfl, ((Below.refl _ _).alloc (Nat.le_refl _) _).trans (hb.mono (by simp))⟩

/-- The first mesh that is not valid, or -1. -/
def badAt (L : List Mesh) : Int := match L.findIdx? (fun m => !m.ok) with | some i => i | none => -1
theorem badAt_hit (L : List Mesh) (k : Nat) (hk : k < L.length) (h : ∀ j (h : j < L.length), j < k → L[j].ok = true) (hb : L[k].ok = false) : badAt L = k := by
  have e : L.findIdx? (fun m => !m.ok) = some k := by
    rw [List.findIdx?_eq_some_iff_getElem]
    exact ⟨hk, by simp [hb], fun j hj => by simp [h j (by omega) hj]⟩
  simp [badAt, e]
theorem badAt_none (L : List Mesh) (h : ∀ j (h : j < L.length), j < L.length → L[j].ok = true) : badAt L = -1 := by
  have e : L.findIdx? (fun m => !m.ok) = none := by
    rw [List.findIdx?_eq_none_iff]
    intro m hm
    obtain ⟨j, hj, rfl⟩ := List.getElem_of_mem hm
    simp [h j hj hj]
  simp [badAt, e]
theorem badAt_all (L : List Mesh) : decide (badAt L ≥ 0) = !L.all Mesh.ok := by
  unfold badAt
  cases e : L.findIdx? (fun m => !m.ok) with
  | none =>
    rw [List.findIdx?_eq_none_iff] at e
    have h : L.all Mesh.ok = true := by rw [List.all_eq_true]; intro m hm; simpa using e m hm
    simp [h]
  | some i =>
    rw [List.findIdx?_eq_some_iff_getElem] at e
    obtain ⟨hi, h1, _⟩ := e
    have h : L.all Mesh.ok = false := by
      rw [List.all_eq_false]
      exact ⟨L[i], List.getElem_mem hi, by simpa using h1⟩
    simp [h]

set_option maxHeartbeats 1000000 in
theorem indexBad_any (A : Option Addr) (c : Nat) (L : List Mesh) (w : World) (hL : RowAt w A (meshCells L)) (hn : L.length ≤ 9223372036854775807) :
    Calls Tryz.prog 100 #[.slice A L.length c, .func (.func 56) #[] #[]] w fun e w' => e = .returned (.int .i64 (badAt L)) ∧ Below w.heap.size w w' := by
  go_enter Tryz.func100, Tryz.ntmps100
  go_wp2
  go_loopw [8] (fun i wr => ∃ k : Nat, k ≤ L.length ∧ i = .int .i64 k ∧ Hid (∀ j (h : j < L.length), j < k → L[j].ok = true) ∧ Below w.heap.size w wr) (fun i _ => L.length - (intOf i).toNat)
  case atStart => exact ⟨0, Nat.zero_le _, rfl, fun j _ h => absurd h (by omega), Below.refl _ _⟩
  case round =>
    obtain ⟨k, hk, rfl, hall, hB⟩ := hrel
    by_cases hlt : k < L.length
    · obtain ⟨b, off, hA, hb, hc⟩ := (hL.below hB).mesh (by omega)
      obtain ⟨c0, c1, c2⟩ := hc k hlt
      clear hc
      rw [hA]
      clear hA
      go_wp2_with (go_at_call 56; refine (badMesh_any _ _ _ _).mono ?_; rintro e w1 ⟨rfl, hb1⟩)
      · have hbad : (!L[k].ok) = true := by assumption
        go_ret
        exact ⟨ret_int (badAt_hit L k hlt hall.out (by simpa using hbad)).symm, hB.trans (hb1.mono hB.size)⟩
      · have hgood : (!L[k].ok) = false := by assumption
        go_roundw
        case rel =>
          refine ⟨k + 1, by omega, by go_num, fun j hj hjk => ?_, hB.trans (hb1.mono hB.size)⟩
          rcases Nat.lt_or_ge j k with h | h
          · exact hall.out j hj h
          · have : j = k := by omega
            subst this
            simpa using hgood
        case measure => simp [intOf]; omega
    · have : k = L.length := by omega
      subst this
      go_wp2
      go_ret
      exact ⟨ret_int (badAt_none L hall.out).symm, hB⟩

set_option maxHeartbeats 400000 in
theorem anyBad_any (A : Option Addr) (c : Nat) (L : List Mesh) (w : World) (hL : RowAt w A (meshCells L)) (hn : L.length ≤ 9223372036854775807) :
    Calls Tryz.prog 55 #[.slice A L.length c, .func (.func 56) #[] #[]] w fun e w' => e = .returned (.bool (!L.all Mesh.ok)) ∧ Below w.heap.size w w' := by
  go_enter Tryz.func55, Tryz.ntmps55
  go_wp2_with (go_at_call 100; refine (indexBad_any _ _ _ _ hL hn).mono ?_; rintro e w1 ⟨rfl, hb1⟩)
  go_ret
  exact ⟨ret_bool (badAt_all L), hb1⟩

/-- Whether a train is valid. -/
def okTrain (L : List Mesh) : Bool := inB L.length 1 16 && L.all Mesh.ok

set_option maxHeartbeats 400000 in
theorem validTrain_any (A : Option Addr) (c : Nat) (L : List Mesh) (w : World) (hL : RowAt w A (meshCells L)) (hn : L.length ≤ 9223372036854775807) :
    Calls Tryz.prog 27 #[.agg #[.slice A L.length c]] w fun e w' => e = .returned (.bool (okTrain L)) ∧ Below w.heap.size w w' := by
  go_enter Tryz.func27, Tryz.ntmps27
  go_wp2_with (first | (go_at_call 54; refine (within_any _ _ _ _).mono ?_; rintro e w' ⟨rfl, rfl⟩) | (go_at_call 55; refine (anyBad_any _ _ _ _ (hL.alloc _) hn).mono ?_; rintro e w1 ⟨rfl, hb1⟩))
  · go_ret
    exact ⟨ret_bool (by simp [okTrain, *]), ((Below.refl _ _).alloc (Nat.le_refl _) _).trans (hb1.mono (by simp))⟩
  · go_ret
    exact ⟨ret_bool (by simp [okTrain, *]), by go_grown⟩

/-- The product of a list. -/
def pr : List Nat → Nat
  | [] => 1
  | n :: l => n * pr l

theorem pr_append (a b : List Nat) : pr (a ++ b) = pr a * pr b := by
  induction a with
  | nil => simp [pr]
  | cons x a ih => simp [pr, ih, Nat.mul_assoc]

theorem pr_pos (l : List Nat) (h : ∀ x ∈ l, 1 ≤ x) : 1 ≤ pr l := by
  induction l with
  | nil => simp [pr]
  | cons x l ih =>
    have h1 := h x (by simp)
    have h2 := ih fun y hy => h y (by simp [hy])
    exact Nat.mul_pos h1 h2

theorem pr_set (l : List Nat) (i : Nat) (hi : i < l.length) (x g : Nat) (h : l[i] = x * g) : pr (l.set i x) * g = pr l := by
  induction l generalizing i with
  | nil => simp at hi
  | cons y l ih =>
    cases i with
    | zero =>
      simp at h
      simp [pr, h, Nat.mul_assoc, Nat.mul_comm g]
    | succ i =>
      have := ih i (by simpa using hi) (by simpa using h)
      simp [pr, Nat.mul_assoc, this]

theorem pr_zero (l : List Nat) (i : Nat) (hi : i < l.length) (h : l[i] = 0) : pr l = 0 := by
  induction l generalizing i with
  | nil => simp at hi
  | cons y l ih =>
    cases i with
    | zero => simp at h; simp [pr, h]
    | succ i => simp [pr, ih i (by simpa using hi) (by simpa using h)]

theorem pr_take_succ (l : List Nat) (i : Nat) (hi : i < l.length) : pr (l.take (i + 1)) = pr (l.take i) * l[i] := by
  rw [List.take_succ_eq_append_getElem hi, pr_append]
  simp [pr]

theorem pr_take_le (l : List Nat) (i : Nat) (h : ∀ x ∈ l, 1 ≤ x) : pr (l.take i) ≤ pr l := by
  have e : pr l = pr (l.take i) * pr (l.drop i) := by rw [← pr_append, List.take_append_drop]
  rw [e]
  exact Nat.le_mul_of_pos_right _ (pr_pos _ fun x hx => h x (List.mem_of_mem_drop hx))

/-- What the functions on ratios return: a ratio and an error. -/
structure Res where
  num : Nat
  den : Nat
  err : Nat
  deriving DecidableEq

/-- The lowest terms of N / D, or the error 2. -/
def low (N D : Nat) : Res :=
  if N / Nat.gcd N D ≤ 1000000000 ∧ D / Nat.gcd N D ≤ 1000000000 then ⟨N / Nat.gcd N D, D / Nat.gcd N D, 0⟩ else ⟨0, 0, 2⟩

/-- Lowest terms are what they are by two facts. -/
theorem low_of (N D n d : Nat) (hD : 1 ≤ D) (hd : 1 ≤ d) (hx : n * D = N * d) (hc : Nat.gcd n d = 1) : N / Nat.gcd N D = n ∧ D / Nat.gcd N D = d := by
  have hcop : Nat.Coprime d n := by rw [Nat.coprime_iff_gcd_eq_one, Nat.gcd_comm]; exact hc
  have h1 : d ∣ D := by
    have : d ∣ n * D := by rw [hx]; exact Nat.dvd_mul_left d N
    exact hcop.dvd_of_dvd_mul_left this
  obtain ⟨g, rfl⟩ := h1
  have hg : 0 < g := Nat.pos_of_ne_zero (by rintro rfl; simp at hD)
  have hN : N = n * g := by
    have : N * d = (n * g) * d := by rw [← hx]; ac_rfl
    exact Nat.eq_of_mul_eq_mul_right (by omega) this
  subst hN
  have e : Nat.gcd (n * g) (d * g) = g := by rw [Nat.gcd_mul_right, hc, Nat.one_mul]
  rw [e]
  exact ⟨Nat.mul_div_cancel _ hg, Nat.mul_div_cancel _ hg⟩

theorem low_eq (N D n d : Nat) (hD : 1 ≤ D) (hd : 1 ≤ d) (hx : n * D = N * d) (hc : Nat.gcd n d = 1) :
    low N D = if n ≤ 1000000000 ∧ d ≤ 1000000000 then ⟨n, d, 0⟩ else ⟨0, 0, 2⟩ := by
  obtain ⟨h1, h2⟩ := low_of N D n d hD hd hx hc
  simp only [low, h1, h2]

/-- Only the fraction counts. -/
theorem low_congr (N D N' D' : Nat) (hD : 1 ≤ D) (hD' : 1 ≤ D') (h : N * D' = N' * D) : low N D = low N' D' := by
  have hg : 0 < Nat.gcd N' D' := Nat.gcd_pos_of_pos_right _ (by omega)
  have hd : 1 ≤ D' / Nat.gcd N' D' := Nat.div_pos (Nat.gcd_le_right _ (by omega)) hg
  have hc : Nat.gcd (N' / Nat.gcd N' D') (D' / Nat.gcd N' D') = 1 := Nat.gcd_div_gcd_div_gcd_of_pos_right (by omega)
  have hx' : N' / Nat.gcd N' D' * D' = N' * (D' / Nat.gcd N' D') := by
    rw [Nat.div_mul_right_comm (Nat.gcd_dvd_left _ _), Nat.mul_div_assoc _ (Nat.gcd_dvd_right _ _)]
  have hx : N' / Nat.gcd N' D' * D = N * (D' / Nat.gcd N' D') := by
    refine Nat.eq_of_mul_eq_mul_right (show 0 < D' by omega) ?_
    calc N' / Nat.gcd N' D' * D * D' = N' / Nat.gcd N' D' * D' * D := by ac_rfl
      _ = N' * (D' / Nat.gcd N' D') * D := by rw [hx']
      _ = N' * D * (D' / Nat.gcd N' D') := by ac_rfl
      _ = N * D' * (D' / Nat.gcd N' D') := by rw [h]
      _ = N * (D' / Nat.gcd N' D') * D' := by ac_rfl
  rw [low_eq N D _ _ hD hd hx hc, low_eq N' D' _ _ hD' hd hx' hc]

/-- What low returns without error. -/
theorem low_ok (N D : Nat) (hD : 1 ≤ D) (h : (low N D).err = 0) :
    (low N D).num * D = N * (low N D).den ∧ Nat.gcd (low N D).num (low N D).den = 1 ∧ 1 ≤ (low N D).den ∧ (low N D).num ≤ 1000000000 ∧ (low N D).den ≤ 1000000000 := by
  unfold low at h ⊢
  split at h
  · rename_i hle
    rw [if_pos hle]
    have hg : 0 < Nat.gcd N D := Nat.gcd_pos_of_pos_right _ (by omega)
    refine ⟨?_, Nat.gcd_div_gcd_div_gcd_of_pos_right (by omega), Nat.div_pos (Nat.gcd_le_right _ (by omega)) hg, hle.1, hle.2⟩
    show N / Nat.gcd N D * D = N * (D / Nat.gcd N D)
    rw [Nat.div_mul_right_comm (Nat.gcd_dvd_left _ _), Nat.mul_div_assoc _ (Nat.gcd_dvd_right _ _)]
  · simp at h

theorem low_err (N D : Nat) : (low N D).err = 0 ∨ low N D = ⟨0, 0, 2⟩ := by
  unfold low
  split
  · exact .inl rfl
  · exact .inr rfl

theorem low_zero (D : Nat) (hD : 1 ≤ D) : low 0 D = ⟨0, 1, 0⟩ := by
  rw [low_eq 0 D 0 1 hD (by omega) (by simp) (by simp)]
  simp

/-! ### The reduction, pair by pair -/

/-- Ns / Ds is N / D, and the pairs before (i, k) have no common divisor. -/
structure Red (N D Ns Ds : List Nat) (M i k : Nat) : Prop where
  lenN : Ns.length = N.length
  lenD : Ds.length = D.length
  leN : ∀ j, Ns.getD j 1 ≤ M
  leD : ∀ j, Ds.getD j 1 ≤ M
  posD : ∀ j, 1 ≤ Ds.getD j 1
  cross : pr Ns * pr D = pr N * pr Ds
  cop : ∀ i' k', i' < i → Nat.gcd (Ns.getD i' 1) (Ds.getD k' 1) = 1
  copk : ∀ k', k' < k → Nat.gcd (Ns.getD i 1) (Ds.getD k' 1) = 1

theorem getD_set (l : List Nat) (i j x : Nat) : (l.set i x).getD j 1 = if i = j ∧ i < l.length then x else l.getD j 1 := by
  simp only [List.getD_eq_getElem?_getD, List.getElem?_set]
  by_cases h : i = j
  · subst h
    by_cases hl : i < l.length
    · simp [hl]
    · simp [hl]
  · simp [h]

theorem cop_div (a b a' b' : Nat) (h : Nat.gcd a b = 1) (ha : a' ∣ a) (hb : b' ∣ b) : Nat.gcd a' b' = 1 := by
  have : Nat.gcd a' b' ∣ Nat.gcd a b := Nat.dvd_gcd (Nat.dvd_trans (Nat.gcd_dvd_left _ _) ha) (Nat.dvd_trans (Nat.gcd_dvd_right _ _) hb)
  rw [h] at this
  exact Nat.dvd_one.1 this

theorem Red.start (N D : List Nat) (M : Nat) (hN : ∀ j, N.getD j 1 ≤ M) (hD : ∀ j, D.getD j 1 ≤ M) (hp : ∀ j, 1 ≤ D.getD j 1) : Red N D N D M 0 0 :=
  ⟨rfl, rfl, hN, hD, hp, rfl, fun _ _ h => absurd h (by omega), fun _ h => absurd h (by omega)⟩

/-- One pair is reduced. -/
theorem Red.step {N D Ns Ds : List Nat} {M i k : Nat} (h : Red N D Ns Ds M i k) (hi : i < Ns.length) (hk : k < Ds.length) :
    Red N D (Ns.set i (Ns[i] / Nat.gcd Ns[i] Ds[k])) (Ds.set k (Ds[k] / Nat.gcd Ns[i] Ds[k])) M i (k + 1) := by
  have ei : Ns.getD i 1 = Ns[i] := by simp [List.getD_eq_getElem?_getD, hi]
  have ek : Ds.getD k 1 = Ds[k] := by simp [List.getD_eq_getElem?_getD, hk]
  have hpk : 1 ≤ Ds[k] := ek ▸ h.posD k
  have hg : 0 < Nat.gcd Ns[i] Ds[k] := Nat.gcd_pos_of_pos_right _ (by omega)
  have gN := Nat.gcd_dvd_left Ns[i] Ds[k]
  have gD := Nat.gcd_dvd_right Ns[i] Ds[k]
  have hle : Nat.gcd Ns[i] Ds[k] ≤ Ds[k] := Nat.gcd_le_right _ (by omega)
  have dN : ∀ j, (Ns.set i (Ns[i] / Nat.gcd Ns[i] Ds[k])).getD j 1 ∣ Ns.getD j 1 := fun j => by
    rw [getD_set]
    split
    · rename_i hh; obtain ⟨rfl, _⟩ := hh; rw [ei]; exact Nat.div_dvd_of_dvd gN
    · exact Nat.dvd_refl _
  have dD : ∀ j, (Ds.set k (Ds[k] / Nat.gcd Ns[i] Ds[k])).getD j 1 ∣ Ds.getD j 1 := fun j => by
    rw [getD_set]
    split
    · rename_i hh; obtain ⟨rfl, _⟩ := hh; rw [ek]; exact Nat.div_dvd_of_dvd gD
    · exact Nat.dvd_refl _
  refine ⟨by simpa using h.lenN, by simpa using h.lenD, fun j => ?_, fun j => ?_, fun j => ?_, ?_, fun i' k' hi' => ?_, fun k' hk' => ?_⟩
  · rw [getD_set]
    split
    · exact Nat.le_trans (Nat.div_le_self _ _) (ei ▸ h.leN i)
    · exact h.leN j
  · rw [getD_set]
    split
    · exact Nat.le_trans (Nat.div_le_self _ _) (ek ▸ h.leD k)
    · exact h.leD j
  · rw [getD_set]
    split
    · exact Nat.div_pos hle hg
    · exact h.posD j
  · have e1 := pr_set Ns i hi (Ns[i] / Nat.gcd Ns[i] Ds[k]) (Nat.gcd Ns[i] Ds[k]) (Nat.div_mul_cancel gN).symm
    have e2 := pr_set Ds k hk (Ds[k] / Nat.gcd Ns[i] Ds[k]) (Nat.gcd Ns[i] Ds[k]) (Nat.div_mul_cancel gD).symm
    have hx := h.cross
    rw [← e1, ← e2] at hx
    refine Nat.eq_of_mul_eq_mul_right hg ?_
    calc _ = pr (Ns.set i (Ns[i] / Nat.gcd Ns[i] Ds[k])) * Nat.gcd Ns[i] Ds[k] * pr D := by ac_rfl
      _ = pr N * (pr (Ds.set k (Ds[k] / Nat.gcd Ns[i] Ds[k])) * Nat.gcd Ns[i] Ds[k]) := hx
      _ = _ := by ac_rfl
  · exact cop_div _ _ _ _ (h.cop i' k' hi') (dN i') (dD k')
  · rcases Nat.lt_or_ge k' k with hlt | hge
    · exact cop_div _ _ _ _ (h.copk k' hlt) (dN i) (dD k')
    · have : k' = k := by omega
      subst this
      rw [getD_set, getD_set, if_pos ⟨rfl, hi⟩, if_pos ⟨rfl, hk⟩]
      exact Nat.gcd_div_gcd_div_gcd_of_pos_right (by omega)

/-- A row of pairs is done. -/
theorem Red.next {N D Ns Ds : List Nat} {M i k : Nat} (h : Red N D Ns Ds M i k) (hk : Ds.length ≤ k) : Red N D Ns Ds M (i + 1) 0 := by
  refine ⟨h.lenN, h.lenD, h.leN, h.leD, h.posD, h.cross, fun i' k' hi' => ?_, fun _ h => absurd h (by omega)⟩
  rcases Nat.lt_or_ge i' i with hlt | hge
  · exact h.cop i' k' hlt
  · have : i' = i := by omega
    subst this
    rcases Nat.lt_or_ge k' k with hlt | hge
    · exact h.copk k' hlt
    · have : Ds.getD k' 1 = 1 := by simp [List.getD_eq_getElem?_getD, List.getElem?_eq_none (show Ds.length ≤ k' by omega)]
      rw [this, Nat.gcd_one_right]

theorem cop_mul (a b c : Nat) (h1 : Nat.gcd a c = 1) (h2 : Nat.gcd b c = 1) : Nat.gcd (a * b) c = 1 :=
  Nat.Coprime.mul_left h1 h2

theorem cop_pr (l : List Nat) (c : Nat) (h : ∀ j, Nat.gcd (l.getD j 1) c = 1) : Nat.gcd (pr l) c = 1 := by
  induction l with
  | nil => simp [pr]
  | cons x l ih =>
    have h0 := h 0
    simp at h0
    exact cop_mul x (pr l) c h0 (ih fun j => by have := h (j + 1); simpa using this)

theorem mem_getD {l : List Nat} {x : Nat} (h : x ∈ l) : ∃ j, l.getD j 1 = x := by
  obtain ⟨j, hj, rfl⟩ := List.getElem_of_mem h
  exact ⟨j, by simp [List.getD_eq_getElem?_getD, hj]⟩

/-- All pairs are done: what is left are the lowest terms. -/
theorem Red.done {N D Ns Ds : List Nat} {M i : Nat} (h : Red N D Ns Ds M i 0) (hi : Ns.length ≤ i) (hD : ∀ d ∈ D, 1 ≤ d) :
    low (pr N) (pr D) = if pr Ns ≤ 1000000000 ∧ pr Ds ≤ 1000000000 then ⟨pr Ns, pr Ds, 0⟩ else ⟨0, 0, 2⟩ := by
  refine low_eq _ _ _ _ (pr_pos D hD) (pr_pos Ds fun x hx => ?_) h.cross ?_
  · obtain ⟨j, rfl⟩ := mem_getD hx
    exact h.posD j
  · refine cop_pr Ns _ fun j => ?_
    rw [Nat.gcd_comm]
    refine cop_pr Ds _ fun k => ?_
    rw [Nat.gcd_comm]
    rcases Nat.lt_or_ge j i with hlt | hge
    · exact h.cop j k hlt
    · have : Ns.getD j 1 = 1 := by simp [List.getD_eq_getElem?_getD, List.getElem?_eq_none (show Ns.length ≤ j by omega)]
      rw [this, Nat.gcd_one_left]

/-- A numerator is 0: so is the product. -/
theorem Red.zero {N D Ns Ds : List Nat} {M i k : Nat} (h : Red N D Ns Ds M i k) (hi : i < Ns.length) (h0 : Ns[i] = 0) (hD : ∀ d ∈ D, 1 ≤ d) : low (pr N) (pr D) = ⟨0, 1, 0⟩ := by
  have h1 := pr_zero Ns i hi h0
  have hx := h.cross
  rw [h1, Nat.zero_mul] at hx
  have hp : 1 ≤ pr Ds := pr_pos Ds fun x hx => by obtain ⟨j, rfl⟩ := mem_getD hx; exact h.posD j
  have : pr N = 0 := by
    rcases Nat.mul_eq_zero.1 hx.symm with h | h
    · exact h
    · omega
  rw [this]
  exact low_zero _ (pr_pos D hD)

/-- The product of the first ones is too large: so is that of all. -/
theorem pr_too_much (l : List Nat) (j : Nat) (hj : j < l.length) (hpos : ∀ x ∈ l, 1 ≤ x) (h1 : 1 ≤ pr (l.take j)) (h : 1000000000 / pr (l.take j) < l[j]) : ¬ pr l ≤ 1000000000 := by
  have h2 := pr_take_le l (j + 1) hpos
  rw [pr_take_succ l j hj] at h2
  have h3 : 1000000000 < pr (l.take j) * l[j] := by
    have := (Nat.div_lt_iff_lt_mul (show 0 < pr (l.take j) by omega)).1 h
    rwa [Nat.mul_comm] at this
  omega

theorem pr_fits (l : List Nat) (j : Nat) (hj : j < l.length) (h1 : 1 ≤ pr (l.take j)) (h : l[j] ≤ 1000000000 / pr (l.take j)) : pr (l.take (j + 1)) ≤ 1000000000 := by
  rw [pr_take_succ l j hj, Nat.mul_comm]
  exact (Nat.le_div_iff_mul_le (show 0 < pr (l.take j) by omega)).1 h



open Go.RowKit

section
variable {w w' : World} {g : Nat} {t : TypeId} {cs : Array Value}
end

theorem fracInfo : (Tryz.prog.info? 148).map (fun i => (i.zero, i.size, i.bytes)) = some (some (.agg #[.int .i64 0, .int .i64 0]), 2, 16) := by kernel_rfl
set_option maxRecDepth 100000 in
set_option maxHeartbeats 400000 in
theorem clone_any (b off c n : Nat) (xs : List Value) (w : World) (hn : n ≤ 65536) (hl : xs.length = n * 2) (h1 : oneCells xs) (hx : RowB w b off xs) :
    Calls Tryz.prog 58 #[.slice (some ⟨b, off, none⟩) n c] w fun e w' => ∃ v, e = .returned v ∧ w'.ownsRow w.heap.size 148 2 v n xs ∧ Below w.heap.size w w' := by
  obtain ⟨i0, hi0, hz0, hz1, hz2⟩ := info_parts fracInfo
  have hnil := fun (W : World) => Lib.run_eql_slice_nil (P := Tryz.prog) W 104 148 (some ⟨b, off, none⟩) n c 0 0 Tryz.underlying104
  have hx1 := (hx.alloc (Obj.cells #[] 148)).add
  have e1 : 0 + n ≤ maxLen := by unfold maxLen; omega
  have e2 : (0 + n) * 16 ≤ 140737488355328 := by omega
  have e3 : w.heap.size ≤ (w.alloc (Obj.cells #[] 148)).heap.size := by simp
  have E := Lib.hid (And.intro hx1 (And.intro h1 (And.intro e1 (And.intro e2 e3))))
  clear hx1 h1 e1 e2 e3 hx
  go_enter Tryz.func58, Tryz.ntmps58
  go_wp2_with (at_builtin; refine wpList_append_own _ rfl _ _ 104 rfl w.heap.size 148 i0 _ 2 16 Tryz.underlying104 hi0 hz0 hz1 hz2 rfl (by decide) _ _ _ rfl (World.ownsRow_made w #[] 0 (Nat.le_refl _) (Nat.zero_le _) rfl) ⟨b, off, none⟩ n c xs rfl hl E.out.1 E.out.2.1 E.out.2.2.1 E.out.2.2.2.1 E.out.2.2.2.2 ?_; intro v w1 hown hg _)
  go_ret
  refine ⟨v, rfl, by simpa using hown, ((Below.refl _ _).alloc (Nat.le_refl _) (.cells #[] 148)).grown hg (by simp) ?_⟩
  intro k hk
  have : w.heap.size = k := by injection hk
  omega



open Go.RowKit

def Res.val (r : Res) : Value := .tuple #[.agg #[.int .i64 r.num, .int .i64 r.den], .int .i64 r.err]

def fracCells (N D : List Nat) : List Value := (N.zip D).flatMap fun p => [.int .i64 p.1, .int .i64 p.2]
theorem fracCells_len (N D : List Nat) (h : D.length = N.length) : (fracCells N D).length = N.length * 2 := by
  have := flat_len (fun p : Nat × Nat => [Value.int .i64 p.1, Value.int .i64 p.2]) 2 (fun _ => rfl) (N.zip D)
  rw [List.length_zip, h, Nat.min_self] at this
  exact this
theorem fracCells_one (N D : List Nat) : oneCells (fracCells N D) := by
  intro u hu
  simp only [fracCells, List.mem_flatMap] at hu
  obtain ⟨p, _, hp⟩ := hu
  simp at hp
  rcases hp with rfl | rfl <;> rfl
theorem fracCells_get (N D : List Nat) (h : D.length = N.length) (j : Nat) (hj : j < N.length) :
    (fracCells N D)[j * 2]? = some (.int .i64 (N.getD j 1)) ∧ (fracCells N D)[j * 2 + 1]? = some (.int .i64 (D.getD j 1)) := by
  have hz : j < (N.zip D).length := by rw [List.length_zip, h, Nat.min_self]; exact hj
  have e1 := flat_get (fun p : Nat × Nat => [Value.int .i64 p.1, Value.int .i64 p.2]) 2 (fun _ => rfl) (by omega) (N.zip D) j 0 hz (by omega)
  have e2 := flat_get (fun p : Nat × Nat => [Value.int .i64 p.1, Value.int .i64 p.2]) 2 (fun _ => rfl) (by omega) (N.zip D) j 1 hz (by omega)
  have hD : j < D.length := by omega
  constructor
  · simpa [fracCells, List.getD_eq_getElem?_getD, hj, hD] using e1
  · simpa [fracCells, List.getD_eq_getElem?_getD, hj, hD] using e2

/-- Block g holds these fractions. -/
def FracBk (w : World) (g : Nat) (N D : List Nat) : Prop :=
  ∃ cur : Array Value, Bk w g 148 cur ∧ ∀ j, j < N.length → cur[j * 2]? = some (.int .i64 (N.getD j 1)) ∧ cur[j * 2 + 1]? = some (.int .i64 (D.getD j 1))
section
variable {w w' : World} {g : Nat} {N D : List Nat}
theorem FracBk.cell (h : FracBk w g N D) (j : Nat) (hj : j < N.length) : w.cell? ⟨g, j * 2, none⟩ = some (.int .i64 (N.getD j 1)) ∧ w.cell? ⟨g, j * 2 + 1, none⟩ = some (.int .i64 (D.getD j 1)) := by
  obtain ⟨cur, hb, hc⟩ := h
  rw [hb.cell, hb.cell]
  exact hc j hj
theorem FracBk.fz (h : FracBk w g N D) (i : Nat) : w.frozen? ⟨g, i, none⟩ = false := by
  obtain ⟨cur, hb, _⟩ := h
  exact hb.fz i
theorem FracBk.drewN (h : FracBk w g N D) (n : Nat) : FracBk (w.drewN n) g N D := h
theorem FracBk.far (h : FracBk w g N D) {p : Addr} (hp : g ≠ p.block) (u : Value) : FracBk (w.setCell p u) g N D := by
  obtain ⟨cur, hb, hc⟩ := h
  exact ⟨cur, hb.far hp u, hc⟩
theorem FracBk.alloc (h : FracBk w g N D) (o : Obj) : FracBk (w.alloc o) g N D := by
  obtain ⟨cur, hb, hc⟩ := h
  exact ⟨cur, hb.alloc o, hc⟩
theorem FracBk.setN (h : FracBk w g N D) (i x : Nat) (hi : i < N.length) : FracBk (w.setCell ⟨g, i * 2, none⟩ (.int .i64 x)) g (N.set i x) D := by
  obtain ⟨cur, hb, hc⟩ := h
  refine ⟨_, hb.put (i * 2) (.int .i64 x), fun j hj => ?_⟩
  have hj' : j < N.length := by simpa using hj
  have hs : i * 2 < cur.size := by
    have := (hc i hi).1
    exact (Array.getElem?_eq_some_iff.1 this).1
  obtain ⟨h1, h2⟩ := hc j hj'
  refine ⟨?_, by rw [Array.getElem?_setIfInBounds, if_neg (by omega)]; exact h2⟩
  rw [Array.getElem?_setIfInBounds, getD_set]
  by_cases e : i = j
  · subst e
    simp [hs, hi]
  · rw [if_neg (by omega), if_neg (by omega)]
    exact h1
theorem FracBk.setD (h : FracBk w g N D) (i x : Nat) (hi : i < N.length) (hl : D.length = N.length) : FracBk (w.setCell ⟨g, i * 2 + 1, none⟩ (.int .i64 x)) g N (D.set i x) := by
  obtain ⟨cur, hb, hc⟩ := h
  refine ⟨_, hb.put (i * 2 + 1) (.int .i64 x), fun j hj => ?_⟩
  have hs : i * 2 + 1 < cur.size := by
    have := (hc i hi).2
    exact (Array.getElem?_eq_some_iff.1 this).1
  obtain ⟨h1, h2⟩ := hc j hj
  refine ⟨by rw [Array.getElem?_setIfInBounds, if_neg (by omega)]; exact h1, ?_⟩
  rw [Array.getElem?_setIfInBounds, getD_set]
  by_cases e : i = j
  · subst e
    simp [hs, hl, hi]
  · rw [if_neg (by omega), if_neg (by omega)]
    exact h2
end

theorem frac_own {w : World} {base : Nat} {v : Value} {N D : List Nat} (h : w.ownsRow base 148 2 v N.length (fracCells N D)) (h0 : 0 < N.length) (hl : D.length = N.length) :
    ∃ g cap, v = .slice (some ⟨g, 0, none⟩) N.length cap ∧ base ≤ g ∧ FracBk w g N D := by
  obtain ⟨g, cap, cur, hv, hb, hg, _, _, hx⟩ := own_some h h0
  refine ⟨g, cap, hv, hb, cur, hg, fun j hj => ?_⟩
  obtain ⟨h1, h2⟩ := fracCells_get N D hl j hj
  exact ⟨hx _ _ h1, hx _ _ h2⟩

/-- What holds at the head of a round of product's reduction. -/
structure PS (N D : List Nat) (w : World) (g o m i k : Nat) (wr : World) (Ns Ds : List Nat) : Prop where
  nz : ∀ j, j < m → 1 ≤ Ns.getD j 1
  fr : FracBk wr g Ns Ds
  red : Red N D Ns Ds 9223372036854775807 i k
  res : Bk wr w.heap.size 80 #[.int .i64 0, .int .i64 0]
  out : Bk wr o 148 #[.int .i64 1, .int .i64 1]
  bel : Below w.heap.size w wr
  rg : w.heap.size < g
  go : g < o

theorem PS.len {N D : List Nat} {w : World} {g o m i k : Nat} {wr : World} {Ns Ds : List Nat} (h : PS N D w g o m i k wr Ns Ds) (hl : D.length = N.length) : Ns.length = N.length ∧ Ds.length = N.length :=
  ⟨h.red.lenN, h.red.lenD.trans hl⟩

theorem PS.cells {N D : List Nat} {w : World} {g o m i k : Nat} {wr : World} {Ns Ds : List Nat} (h : PS N D w g o m i k wr Ns Ds) (hl : D.length = N.length) (hi : i < N.length) (hk : k < N.length) :
    ∃ a b : Nat, wr.cell? ⟨g, i * 2, none⟩ = some (.int .i64 a) ∧ wr.cell? ⟨g, k * 2 + 1, none⟩ = some (.int .i64 b) ∧ a ≤ 9223372036854775807 ∧ 1 ≤ b ∧ b ≤ 9223372036854775807 ∧
      (∀ x : Int, ((wr.setCell ⟨g, i * 2, none⟩ (.int .i64 x)).cell? ⟨g, k * 2 + 1, none⟩) = some (.int .i64 b)) ∧
      ∀ n (x y : Int), x = (a : Int) / (Nat.gcd a b : Nat) → y = (b : Int) / (Nat.gcd a b : Nat) → ∃ Ns' Ds', PS N D w g o m i (k + 1) (((wr.drewN n).setCell ⟨g, i * 2, none⟩ (.int .i64 x)).setCell ⟨g, k * 2 + 1, none⟩ (.int .i64 y)) Ns' Ds' := by
  obtain ⟨l1, l2⟩ := h.len hl
  have hi' : i < Ns.length := by omega
  have hk' : k < Ds.length := by omega
  have ei : Ns.getD i 1 = Ns[i] := by simp [List.getD_eq_getElem?_getD, hi']
  have ek : Ds.getD k 1 = Ds[k] := by simp [List.getD_eq_getElem?_getD, hk']
  have c1 := (h.fr.cell i hi').1
  have c2 := (h.fr.cell k (by omega)).2
  refine ⟨Ns[i], Ds[k], by rw [c1, ei], by rw [c2, ek], ei ▸ h.red.leN i, ek ▸ h.red.posD k, ek ▸ h.red.leD k, fun x => ?_, fun n x y hx hy => ?_⟩
  · rw [World.cell?_setCell_other _ _ _ _ (by intro e; injection e; omega), c2, ek]
  · have ex : x = ((Ns[i] / Nat.gcd Ns[i] Ds[k] : Nat) : Int) := by rw [hx]; rfl
    have ey : y = ((Ds[k] / Nat.gcd Ns[i] Ds[k] : Nat) : Int) := by rw [hy]; rfl
    subst ex ey
    have f1 := (h.fr.drewN n).setN i (Ns[i] / Nat.gcd Ns[i] Ds[k]) hi'
    have f2 := f1.setD k (Ds[k] / Nat.gcd Ns[i] Ds[k]) (by simpa using (by omega : k < Ns.length)) (by simpa using (by omega : Ds.length = Ns.length))
    have hr := h.rg
    have ho := h.go
    refine ⟨_, _, fun j hj => ?_, f2, h.red.step hi' hk', ((h.res.drewN n).far (by simp; omega) _).far (by simp; omega) _, ((h.out.drewN n).far (by simp; omega) _).far (by simp; omega) _, ?_, h.rg, h.go⟩
    · rw [getD_set]
      split
      · rename_i hh
        obtain ⟨rfl, _⟩ := hh
        have h1 : 1 ≤ Ns[i] := ei ▸ h.nz i hj
        exact Nat.div_pos (Nat.gcd_le_left _ (by omega)) (Nat.gcd_pos_of_pos_left _ (by omega))
      · exact h.nz j hj
    exact ((below_drewN h.bel n).setCell (by simp; omega) _).setCell (by simp; omega) _

/-- What holds at the head of a round of product's last loop. -/
structure AS (w : World) (g o : Nat) (Ns Ds : List Nat) (j : Nat) (wr : World) : Prop where
  fr : FracBk wr g Ns Ds
  res : Bk wr w.heap.size 80 #[.int .i64 0, .int .i64 0]
  out : Bk wr o 148 #[.int .i64 (pr (Ns.take j) : Nat), .int .i64 (pr (Ds.take j) : Nat)]
  bel : Below w.heap.size w wr
  rg : w.heap.size < g
  go : g < o
  leN : pr (Ns.take j) ≤ 1000000000
  leD : pr (Ds.take j) ≤ 1000000000

theorem lt_of_i {p x : Nat} (h : (1000000000 : Int) / (p : Int) < (x : Int)) : 1000000000 / p < x := by
  have e : (1000000000 : Int) / (p : Int) = ((1000000000 / p : Nat) : Int) := by rw [Int.natCast_ediv]; rfl
  rw [e] at h
  omega
theorem le_of_i {p x : Nat} (h : (x : Int) ≤ (1000000000 : Int) / (p : Int)) : x ≤ 1000000000 / p := by
  have e : (1000000000 : Int) / (p : Int) = ((1000000000 / p : Nat) : Int) := by rw [Int.natCast_ediv]; rfl
  rw [e] at h
  omega
theorem mul_of_i (p x : Nat) (hp : 1 ≤ p) (h : (x : Int) ≤ (1000000000 : Int) / (p : Int)) : (p : Int) * x ≤ 1000000000 := by
  have h := (Nat.le_div_iff_mul_le (show 0 < p by omega)).1 (le_of_i h)
  rw [Nat.mul_comm] at h
  have h2 : ((p * x : Nat) : Int) ≤ 1000000000 := by omega
  rwa [Int.natCast_mul] at h2

theorem AS.open_ {w : World} {g o : Nat} {Ns Ds : List Nat} {j : Nat} {wr : World} (h : AS w g o Ns Ds j wr) (hj : j < Ns.length) (hl : Ds.length = Ns.length) (hN : ∀ x ∈ Ns, 1 ≤ x) (hD : ∀ x ∈ Ds, 1 ≤ x) :
    ∃ x y p q : Nat, wr.cell? ⟨g, j * 2, none⟩ = some (.int .i64 x) ∧ wr.cell? ⟨g, j * 2 + 1, none⟩ = some (.int .i64 y) ∧ wr.cell? ⟨o, 0, none⟩ = some (.int .i64 p) ∧ wr.cell? ⟨o, 1, none⟩ = some (.int .i64 q) ∧
      1 ≤ p ∧ p ≤ 1000000000 ∧ 1 ≤ q ∧ q ≤ 1000000000 ∧
      Hid ((((1000000000 : Int) / (p : Int) < (x : Int)) → ¬ pr Ns ≤ 1000000000) ∧ (((1000000000 : Int) / (q : Int) < (y : Int)) → ¬ pr Ds ≤ 1000000000) ∧ ((x : Int) ≤ (1000000000 : Int) / (p : Int) → (p : Int) * x ≤ 1000000000) ∧ ((y : Int) ≤ (1000000000 : Int) / (q : Int) → (q : Int) * y ≤ 1000000000) ∧
        ∀ (n : Nat) (c : Array Value) (X Y : Int), (x : Int) ≤ (1000000000 : Int) / (p : Int) → (y : Int) ≤ (1000000000 : Int) / (q : Int) → X = (p : Int) * x → Y = (q : Int) * y → AS w g o Ns Ds (j + 1) (((((wr.alloc (.cells c 148)).drewN n).setCell ⟨o, 0, none⟩ (.int .i64 X)).setCell ⟨o, 1, none⟩ (.int .i64 Y)))) := by
  have hd : j < Ds.length := by omega
  obtain ⟨c1, c2⟩ := h.fr.cell j hj
  have o1 := h.out.cell 0
  have o2 := h.out.cell 1
  have ei : Ns.getD j 1 = Ns[j] := by simp [List.getD_eq_getElem?_getD, hj]
  have ek : Ds.getD j 1 = Ds[j] := by simp [List.getD_eq_getElem?_getD, hd]
  have p1 : 1 ≤ pr (Ns.take j) := pr_pos _ fun x hx => hN x (List.mem_of_mem_take hx)
  have q1 : 1 ≤ pr (Ds.take j) := pr_pos _ fun x hx => hD x (List.mem_of_mem_take hx)
  refine ⟨Ns[j], Ds[j], pr (Ns.take j), pr (Ds.take j), by rw [c1, ei], by rw [c2, ek], by rw [o1]; rfl, by rw [o2]; rfl, p1, h.leN, q1, h.leD, fun hh => pr_too_much Ns j hj hN p1 (lt_of_i hh), fun hh => pr_too_much Ds j hd hD q1 (lt_of_i hh), mul_of_i _ _ p1, mul_of_i _ _ q1, fun n c X Y hx hy hX hY => ?_⟩
  have eX : X = ((pr (Ns.take (j + 1)) : Nat) : Int) := by rw [hX, pr_take_succ Ns j hj]; simp
  have eY : Y = ((pr (Ds.take (j + 1)) : Nat) : Int) := by rw [hY, pr_take_succ Ds j hd]; simp
  subst eX eY
  have hg := h.go
  have hr := h.rg
  have hb := (((h.out.alloc (.cells c 148)).drewN n).put 0 (.int .i64 (pr (Ns.take (j + 1)) : Nat))).put 1 (.int .i64 (pr (Ds.take (j + 1)) : Nat))
  refine ⟨((((h.fr.alloc _).drewN n).far (by simp; omega) _).far (by simp; omega) _), ((((h.res.alloc _).drewN n).far (by simp; omega) _).far (by simp; omega) _), by simpa using hb, ?_, h.rg, h.go, pr_fits Ns j hj p1 (le_of_i hx), pr_fits Ds j hd q1 (le_of_i hy)⟩
  exact ((below_drewN (h.bel.alloc h.bel.size _) n).setCell (by simp; omega) _).setCell (by simp; omega) _

set_option maxRecDepth 100000 in
set_option maxHeartbeats 2000000 in
theorem product_any (b off c : Nat) (N D : List Nat) (w : World) (hl : D.length = N.length) (h0 : 0 < N.length) (hn : N.length ≤ 4096) (hx : RowB w b off (fracCells N D))
    (hN : ∀ j, N.getD j 1 ≤ 9223372036854775807) (hD : ∀ j, D.getD j 1 ≤ 9223372036854775807) (hp : ∀ j, 1 ≤ D.getD j 1) :
    Calls Tryz.prog 28 #[.slice (some ⟨b, off, none⟩) N.length c] w fun e w' => e = .returned (low (pr N) (pr D)).val ∧ Below w.heap.size w w' := by
  have hst := Red.start N D _ hN hD hp
  have HX := Lib.hid (And.intro hx (And.intro hst hp))
  have HL := Lib.hid hl
  clear hx hst hp hN hD hl
  go_enter Tryz.func28, Tryz.ntmps28
  go_wp2_with (go_at_call 58; refine (clone_any _ _ _ _ _ _ (by omega) (fracCells_len N D HL.out) (fracCells_one N D) (HX.out.1.alloc _)).mono ?_; rintro e w1 ⟨v, rfl, hown, hb1⟩; obtain ⟨g, cap, rfl, hg, hf⟩ := frac_own hown h0 HL.out; clear hown)
  have hps : PS N D w g w1.heap.size 0 0 0 (w1.alloc (Obj.cells #[Value.int IntKind.i64 1, Value.int IntKind.i64 1] 148)) N D := by
    have hgl : g < w1.heap.size := by obtain ⟨cur, h, _⟩ := hf; exact h.lt
    simp only [World.size_alloc] at hg
    have hr1 : Bk w1 w.heap.size 80 #[.int .i64 0, .int .i64 0] := (Bk.new w 80 _).below hb1 (by simp)
    exact ⟨fun _ h => absurd h (by omega), hf.alloc _, HX.out.2.1, hr1.alloc _, Bk.new _ _ _, (((Below.refl _ _).alloc (Nat.le_refl _) _).trans (hb1.mono (by simp))).alloc (by have := hb1.size; simp at this; omega) _, by omega, hgl⟩
  clear hb1 hf hg
  go_loopw [15] (fun i wr => ∃ k : Nat, k ≤ N.length ∧ i = .int .i64 k ∧ ∃ Ns Ds, PS N D w g w1.heap.size k k 0 wr Ns Ds) (fun i _ => N.length - (intOf i).toNat)
  case atStart => exact ⟨0, Nat.zero_le _, rfl, N, D, hps⟩
  case round =>
    obtain ⟨i, hi, rfl, Ns, Ds, hP⟩ := hrel
    by_cases hlt : i < N.length
    · obtain ⟨l1, l2⟩ := hP.len HL.out
      have c1 := (hP.fr.cell i (by omega)).1
      have r1 := hP.res.cell 0
      have r2 := hP.res.cell 1
      have q1 := hP.res.fz 0
      have q2 := hP.res.fz 1
      simp at r1 r2
      generalize ha : Ns.getD i 1 = a at c1
      have HA := Lib.hid ha
      clear ha l1 l2
      by_cases ha0 : a = 0
      · subst ha0
        go_wp2
        refine bodyPost_ret (v := Value.tuple #[.agg #[.int .i64 0, .int .i64 1], .int .i64 0]) (by simp [results, Tryz.results28, go_sem, r1, r2]) rfl ⟨?_, ?_⟩
        · obtain ⟨l1, l2⟩ := hP.len HL.out
          have hN0 : Ns[i] = 0 := by have := HA.out; simpa [List.getD_eq_getElem?_getD, (by omega : i < Ns.length)] using this
          have hz := hP.red.zero (by omega) hN0 (fun d hd => by obtain ⟨j, rfl⟩ := mem_getD hd; exact HX.out.2.2 j)
          rw [hz]
          rfl
        · exact (hP.bel.setCell (by simp) _).setCell (by simp) _
      · have ha1 : ((a : Int) == 0) = false := by simp; omega
        go_wp2
        clear c1 r1 r2 q1 q2
        obtain ⟨wo, hwo⟩ : ∃ wo : World, wo = wr := ⟨_, rfl⟩
        subst hwo
        go_loopw [27] (fun j wr => ∃ k : Nat, k ≤ N.length ∧ j = .int .i64 k ∧ ∃ Ns Ds, PS N D w g w1.heap.size (i + 1) i k wr Ns Ds) (fun j _ => N.length - (intOf j).toNat)
        case atStart =>
          refine ⟨0, Nat.zero_le _, rfl, Ns, Ds, { hP with nz := fun j hj => ?_ }⟩
          rcases Nat.lt_or_ge j i with h | h
          · exact hP.nz j h
          · have : j = i := by omega
            subst this
            rw [HA.out]
            omega
        case round =>
          obtain ⟨k, hk, rfl, Ns', Ds', hQ⟩ := hrel
          by_cases hlk : k < N.length
          · obtain ⟨x, y, c1, c2, hx1, hy1, hy2, c3, hnext⟩ := hQ.cells HL.out hlt hlk
            have f1 := hQ.fr.fz (i * 2)
            have f2 := hQ.fr.fz (k * 2 + 1)
            have HN := Lib.hid hnext
            clear hnext
            have b1 : (i : Int) < (N.length : Int) := by omega
            have b2 : (k : Int) < (N.length : Int) := by omega
            have g1 : 1 ≤ ((Nat.gcd x y : Nat) : Int) := by have := Nat.gcd_pos_of_pos_right x (show 0 < y by omega); omega
            have g2 : (((Nat.gcd x y : Nat) : Int) == 0) = false := by simp; omega
            go_wp2
            go_quiet ((go_at_call 59; refine Calls.quiet_of (gcd_any _ _ _ hx1 hy2)))
            go_wp2
            have HW : Hid (∀ z : Nat, z ≤ 9223372036854775807 → wrap64 ((z : Int) / ((Nat.gcd x y : Nat) : Int)) = (z : Int) / ((Nat.gcd x y : Nat) : Int)) := fun z hz => by
              have e1 : 0 ≤ (z : Int) / ((Nat.gcd x y : Nat) : Int) := Int.ediv_nonneg (by omega) (by omega)
              have e2 : (z : Int) / ((Nat.gcd x y : Nat) : Int) ≤ z := Int.ediv_le_self _ (by omega)
              exact IntWalk.wrap64_in _ ⟨by omega, by omega⟩
            go_roundw
            case rel => exact ⟨k + 1, by omega, by go_num, HN.out _ _ _ (HW.out x hx1) (HW.out y hy2)⟩
            case measure => simp [intOf]; omega
          · have : k = N.length := by omega
            subst this
            go_wp2
            go_roundw
            case rel => exact ⟨i + 1, by omega, by go_num, _, _, { hQ with red := hQ.red.next (by have := (hQ.len HL.out).2; omega) }⟩
            case measure => simp [intOf]; omega
    · have : i = N.length := by omega
      subst this
      obtain ⟨l1, l2⟩ := hP.len HL.out
      have hfin := hP.red.done (by omega) (fun d hd => by obtain ⟨j, rfl⟩ := mem_getD hd; exact HX.out.2.2 j)
      have hnz : ∀ x ∈ Ns, 1 ≤ x := fun x hx => by
        obtain ⟨j, hj, rfl⟩ := List.getElem_of_mem hx
        have := hP.nz j (by omega)
        simpa [List.getD_eq_getElem?_getD, hj] using this
      have hdz : ∀ x ∈ Ds, 1 ≤ x := fun x hx => by obtain ⟨j, rfl⟩ := mem_getD hx; exact hP.red.posD j
      have hAS : AS w g w1.heap.size Ns Ds 0 wr := ⟨hP.fr, hP.res, hP.out, hP.bel, hP.rg, hP.go, by simp [pr], by simp [pr]⟩
      have HF := Lib.hid (And.intro hfin (And.intro hnz (And.intro hdz (And.intro l1 l2))))
      clear hfin hnz hdz l1 l2 hP HX hps
      obtain ⟨wo, hwo⟩ : ∃ wo : World, wo = wr := ⟨_, rfl⟩
      subst hwo
      go_wp2
      go_loopw [63] (fun i wr => ∃ k : Nat, k ≤ N.length ∧ i = .int .i64 k ∧ AS w g w1.heap.size Ns Ds k wr) (fun i _ => N.length - (intOf i).toNat)
      case atStart => exact ⟨0, Nat.zero_le _, rfl, hAS⟩
      case round =>
        obtain ⟨k, hk, rfl, hA⟩ := hrel
        by_cases hlt : k < N.length
        · obtain ⟨x, y, p, q, c1, c2, o1, o2, hp1, hp2, hq1, hq2, HY⟩ := hA.open_ (by have := HF.out.2.2.2.1; omega) (by have := HF.out.2.2.2.1; have := HF.out.2.2.2.2; omega) HF.out.2.1 HF.out.2.2.1
          have hz := hA.out.lt
          have hzr := hA.res.lt
          have fo1 := hA.out.fz 0
          have fo2 := hA.out.fz 1
          have b1 : (k : Int) < (N.length : Int) := by omega
          have e1 : 0 ≤ (1000000000 : Int) / (p : Int) := Int.ediv_nonneg (by omega) (by omega)
          have e2 : (1000000000 : Int) / (p : Int) ≤ 1000000000 := Int.ediv_le_self _ (by omega)
          have e3 : 0 ≤ (1000000000 : Int) / (q : Int) := Int.ediv_nonneg (by omega) (by omega)
          have e4 : (1000000000 : Int) / (q : Int) ≤ 1000000000 := Int.ediv_le_self _ (by omega)
          have p0 : ((p : Int) == 0) = false := by simp; omega
          have q0 : ((q : Int) == 0) = false := by simp; omega
          have r1 := hA.res.cell 0
          have r2 := hA.res.cell 1
          have q1 := hA.res.fz 0
          have q2 := hA.res.fz 1
          simp at r1 r2
          have hbel := hA.bel
          have HFL : Hid (∀ W : World, (¬ pr Ns ≤ 1000000000 ∨ ¬ pr Ds ≤ 1000000000) → Below w.heap.size w W → (Ending.returned (Value.tuple #[.agg #[.int .i64 0, .int .i64 0], .int .i64 2]) = .returned (low (pr N) (pr D)).val ∧ Below w.heap.size w W)) := fun W ho hW => by
            refine ⟨?_, hW⟩
            rw [HF.out.1, if_neg (by omega)]
            rfl
          clear hA
          by_cases hg1 : (1000000000 : Int) / (p : Int) < (x : Int)
          · have hd : decide ((1000000000 : Int) / (p : Int) < (x : Int)) = true := by simpa using hg1
            go_wp2
            go_quiet (fail)
            go_wp2
            refine bodyPost_ret (v := Value.tuple #[.agg #[.int .i64 0, .int .i64 0], .int .i64 2]) (by simp [results, Tryz.results28, go_sem, r1, r2, hzr]) rfl (HFL.out _ (.inl (HY.out.1 (by omega))) ?_)
            exact (((below_drewN (hbel.alloc hbel.size _) nq).setCell (by simp) _).setCell (by simp) _)
          · have hd : decide ((1000000000 : Int) / (p : Int) < (x : Int)) = false := by simpa using hg1
            by_cases hg2 : (1000000000 : Int) / (q : Int) < (y : Int)
            · have hd2 : decide ((1000000000 : Int) / (q : Int) < (y : Int)) = true := by simpa using hg2
              go_wp2
              go_quiet (fail)
              go_wp2
              refine bodyPost_ret (v := Value.tuple #[.agg #[.int .i64 0, .int .i64 0], .int .i64 2]) (by simp [results, Tryz.results28, go_sem, r1, r2, hzr]) rfl (HFL.out _ (.inr (HY.out.2.1 (by omega))) ?_)
              exact (((below_drewN (hbel.alloc hbel.size _) nq).setCell (by simp) _).setCell (by simp) _)
            · have hd2 : decide ((1000000000 : Int) / (q : Int) < (y : Int)) = false := by simpa using hg2
              have m1 := HY.out.2.2.1 (by omega)
              have m2 := HY.out.2.2.2.1 (by omega)
              have m3 : 0 ≤ (p : Int) * x := Int.mul_nonneg (by omega) (by omega)
              have m4 : 0 ≤ (q : Int) * y := Int.mul_nonneg (by omega) (by omega)
              go_wp2
              go_quiet (fail)
              go_wp2
              go_roundw
              case rel => exact ⟨k + 1, by omega, by go_num, HY.out.2.2.2.2 _ _ _ _ (by omega) (by omega) rfl rfl⟩
              case measure => simp [intOf]; omega
        · have : k = N.length := by omega
          subst this
          have r1 := hA.res.cell 0
          have r2 := hA.res.cell 1
          have q1 := hA.res.fz 0
          have q2 := hA.res.fz 1
          have o1 := hA.out.cell 0
          have o2 := hA.out.cell 1
          simp at r1 r2 o1 o2
          go_wp2
          refine bodyPost_ret (v := Value.tuple #[.agg #[.int .i64 (pr Ns : Nat), .int .i64 (pr Ds : Nat)], .int .i64 0]) ?_ rfl ⟨?_, ?_⟩
          · have e1 := HF.out.2.2.2.1
            have e2 := HF.out.2.2.2.2
            rw [List.take_of_length_le (by omega), List.take_of_length_le (by omega)]
            simp [results, Tryz.results28, go_sem, r1, r2]
          · have h1 := hA.leN
            have h2 := hA.leD
            rw [List.take_of_length_le (by have := HF.out.2.2.2.1; omega)] at h1
            rw [List.take_of_length_le (by have := HF.out.2.2.2.2; omega)] at h2
            rw [HF.out.1, if_pos ⟨h1, h2⟩]
            rfl
          · exact (hA.bel.setCell (by simp) _).setCell (by simp) _



open Go.RowKit
attribute [local go_sem] Res.val

def stepCells (L : List Mesh) : List Value := L.flatMap fun m => [.int .i64 m.dr, .int .i64 m.dn]
theorem stepCells_len (L : List Mesh) : (stepCells L).length = L.length * 2 := flat_len _ 2 (fun _ => rfl) L
theorem stepCells_succ (L : List Mesh) (k : Nat) (hk : k < L.length) : stepCells (L.take (k + 1)) = stepCells (L.take k) ++ [.int .i64 L[k].dr, .int .i64 L[k].dn] := by
  rw [List.take_succ_eq_append_getElem hk]
  unfold stepCells
  rw [List.flatMap_append]
  rfl

set_option maxRecDepth 100000 in
set_option maxHeartbeats 1000000 in
theorem gsteps_any (A : Option Addr) (c : Nat) (L : List Mesh) (w : World) (hL : RowAt w A (meshCells L)) (hn : L.length ≤ 65536) :
    Calls Tryz.prog 29 #[.slice A L.length c] w fun e w' => ∃ v, e = .returned v ∧ w'.ownsRow w.heap.size 148 2 v L.length (stepCells L) ∧ Below w.heap.size w w' := by
  obtain ⟨i0, hi0, hz0, hz1, hz2⟩ := info_parts fracInfo
  go_enter Tryz.func29, Tryz.ntmps29
  go_wp2
  go_loopw [3, 8] (fun v i wr => ∃ k : Nat, k ≤ L.length ∧ i = .int .i64 k ∧ wr.ownsRow w.heap.size 148 2 v k (stepCells (L.take k)) ∧ Below w.heap.size w wr) (fun _ i _ => L.length - (intOf i).toNat)
  case atStart => exact ⟨0, Nat.zero_le _, rfl, World.ownsRow_nil _ _ _ _, Below.refl _ _⟩
  case round =>
    obtain ⟨k, hk, rfl, hown, hB⟩ := hrel
    by_cases hlt : k < L.length
    · obtain ⟨b, off, hA, hb, hc⟩ := (hL.below hB).mesh (by omega)
      obtain ⟨c0, c1, c2⟩ := hc k hlt
      clear hc
      rw [hA]
      clear hA
      have E1 : k + 1 ≤ maxLen := by unfold maxLen; omega
      have E2 : (k + 1) * 16 ≤ 140737488355328 := by omega
      have E3 : w.heap.size ≤ wr.heap.size := hB.size
      have E := Lib.hid (And.intro E1 (And.intro E2 E3))
      clear E1 E2 E3
      go_wp2_with (at_builtin; refine wpList_append_own _ rfl _ _ 104 rfl w.heap.size 148 i0 _ 2 16 Tryz.underlying104 hi0 hz0 hz1 hz2 rfl (by decide) _ _ _ rfl ((hown.alloc _).alloc _) ⟨wr.heap.size + 1, 0, none⟩ 1 1 [.int .i64 L[k].dr, .int .i64 L[k].dn] rfl rfl (two_at _ _ _ _ _ (by simp)) (by simp [Value.oneCell']) E.out.1 E.out.2.1 (by have := E.out.2.2; simp; omega) ?_; intro v' w1 hown' hg _)
      have hB1 : Below w.heap.size w w1 := ((hB.alloc hB.size _).alloc (by have := hB.size; simp; omega) _).grown hg (by have := hB.size; simp; omega) (fun g hg' => (hown.lt g hg').1)
      clear hg hown
      go_wp2
      go_roundw
      case rel => exact ⟨k + 1, by omega, by go_num, by rw [stepCells_succ L k hlt]; exact hown', hB1⟩
      case measure => simp [intOf]; omega
    · have : k = L.length := by omega
      subst this
      go_wp2
      go_ret
      exact ⟨_, rfl, by rw [List.take_of_length_le (by omega)] at hown; exact hown, hB⟩

/-- Drivers and driven wheels. -/
def drs (L : List Mesh) : List Nat := L.map fun m => m.dr.toNat
def dns (L : List Mesh) : List Nat := L.map fun m => m.dn.toNat
theorem drs_len (L : List Mesh) : (drs L).length = L.length := by simp [drs]
theorem dns_len (L : List Mesh) : (dns L).length = L.length := by simp [dns]

theorem ok_mesh {m : Mesh} (h : m.ok = true) : 1 ≤ m.dr ∧ m.dr ≤ 4096 ∧ 1 ≤ m.dn ∧ m.dn ≤ 4096 ∧ 0 ≤ m.pl ∧ m.pl ≤ 1000 := by
  simp only [Mesh.ok, inB, Bool.and_eq_true, decide_eq_true_eq] at h
  omega
theorem ok_train {L : List Mesh} (h : okTrain L = true) : 1 ≤ L.length ∧ L.length ≤ 16 ∧ ∀ m ∈ L, m.ok = true := by
  simp only [okTrain, inB, Bool.and_eq_true, decide_eq_true_eq, List.all_eq_true] at h
  exact ⟨by omega, by omega, h.2⟩

theorem step_frac (L : List Mesh) (h : ∀ m ∈ L, m.ok = true) : stepCells L = fracCells (drs L) (dns L) := by
  induction L with
  | nil => rfl
  | cons m L ih =>
    have hm := ok_mesh (h m (by simp))
    have e := ih fun x hx => h x (by simp [hx])
    simp only [stepCells, fracCells, drs, dns, List.map_cons, List.zip_cons_cons, List.flatMap_cons] at e ⊢
    rw [e, Int.toNat_of_nonneg (by omega), Int.toNat_of_nonneg (by omega)]

theorem getD_map_le (L : List Mesh) (f : Mesh → Int) (h : ∀ m ∈ L, 1 ≤ f m ∧ f m ≤ 4096) (j : Nat) : 1 ≤ (L.map fun m => (f m).toNat).getD j 1 ∧ (L.map fun m => (f m).toNat).getD j 1 ≤ 4096 := by
  rw [List.getD_eq_getElem?_getD, List.getElem?_map]
  cases e : L[j]? with
  | none => simp
  | some m =>
    have hm := h m (List.mem_of_getElem? e)
    simp
    omega
theorem drs_getD {L : List Mesh} (h : ∀ m ∈ L, m.ok = true) (j : Nat) : 1 ≤ (drs L).getD j 1 ∧ (drs L).getD j 1 ≤ 4096 := getD_map_le L (·.dr) (fun m hm => by have := ok_mesh (h m hm); omega) j
theorem dns_getD {L : List Mesh} (h : ∀ m ∈ L, m.ok = true) (j : Nat) : 1 ≤ (dns L).getD j 1 ∧ (dns L).getD j 1 ≤ 4096 := getD_map_le L (·.dn) (fun m hm => by have := ok_mesh (h m hm); omega) j

/-- The ratio of a train. -/
def ratioR (L : List Mesh) : Res := if okTrain L then low (pr (drs L)) (pr (dns L)) else ⟨0, 0, 70⟩

set_option maxHeartbeats 1000000 in
theorem ratioOf_any (A : Option Addr) (c : Nat) (L : List Mesh) (w : World) (hL : RowAt w A (meshCells L)) (hn : L.length ≤ 9223372036854775807) :
    Calls Tryz.prog 13 #[.agg #[.slice A L.length c]] w fun e w' => e = .returned (ratioR L).val ∧ Below w.heap.size w w' := by
  by_cases hok : okTrain L = true
  · have hR : ratioR L = low (pr (drs L)) (pr (dns L)) := by rw [ratioR, if_pos hok]
    rw [hR]
    clear hR
    obtain ⟨k1, k2, k3⟩ := ok_train hok
    have K := Lib.hid k3
    clear k3
    go_enter Tryz.func13, Tryz.ntmps13
    go_wp2_with fail
    refine (validTrain_any _ _ _ _ ((hL.alloc _).alloc _) hn).mono ?_
    rintro e w1 ⟨rfl, hb1⟩
    have T : Bk w1 w.heap.size 39 #[.slice A L.length c] := ((bk_last rfl).alloc _).keep hb1
    have E : Bk w1 (w.heap.size + 1) 80 #[.int .i64 0, .int .i64 0] := (bk_last (by simp)).keep hb1
    have hB1 : Below w.heap.size w w1 := (((Below.refl _ _).alloc (Nat.le_refl _) _).alloc (by simp) _).trans (hb1.mono (by simp; omega))
    have hz1 := hb1.size
    simp at hz1
    clear hb1
    have t0 := T.cell 0
    simp at t0
    go_wp2_with fail
    refine (gsteps_any _ _ L _ (hL.below hB1) (by omega)).mono ?_
    rintro e w2 ⟨v, rfl, hown, hb2⟩
    obtain ⟨g, cap, rfl, hg, hrow⟩ := own_row hown (by omega)
    replace E := E.keep hb2
    have hB2 := hB1.trans (hb2.mono hB1.size)
    have hz2 := hb2.size
    clear hb2 hB1 T t0 hown
    rw [step_frac L K.out] at hrow
    go_wp2_with fail
    have hp := product_any g 0 cap (drs L) (dns L) w2 (by rw [drs_len, dns_len]) (by rw [drs_len]; omega) (by rw [drs_len]; omega) hrow (fun j => by have := drs_getD K.out j; omega) (fun j => by have := dns_getD K.out j; omega) (fun j => by have := dns_getD K.out j; omega)
    rw [drs_len] at hp
    refine hp.mono ?_
    clear hp hrow
    rintro e w4 ⟨rfl, hb4⟩
    replace E := E.keep hb4
    have hB4 := hB2.trans (hb4.mono hB2.size)
    clear hb4 hB2
    have e0 := E.cell 0
    have e1 := E.cell 1
    have e2 := E.fz 0
    have e3 := E.fz 1
    simp at e0 e1
    go_wp2_with fail
    refine bodyPost_ret (v := (low (pr (drs L)) (pr (dns L))).val) (by simp [results, Tryz.results13, go_sem, e0, e1]) rfl ⟨rfl, (hB4.setCell (by simp) _).setCell (by simp) _⟩
  · have hR : ratioR L = ⟨0, 0, 70⟩ := by rw [ratioR, if_neg hok]
    rw [hR]
    clear hR
    have hok' : okTrain L = false := by simpa using hok
    go_enter Tryz.func13, Tryz.ntmps13
    go_wp2_with fail
    refine (validTrain_any _ _ _ _ ((hL.alloc _).alloc _) hn).mono ?_
    rintro e w1 ⟨rfl, hb1⟩
    have E : Bk w1 (w.heap.size + 1) 80 #[.int .i64 0, .int .i64 0] := (bk_last (by simp)).keep hb1
    have hB1 : Below w.heap.size w w1 := (((Below.refl _ _).alloc (Nat.le_refl _) _).alloc (by simp) _).trans (hb1.mono (by simp; omega))
    clear hb1
    have e0 := E.cell 0
    have e1 := E.cell 1
    have e2 := E.fz 0
    have e3 := E.fz 1
    simp at e0 e1
    go_wp2_with fail
    refine bodyPost_ret (v := .tuple #[.agg #[.int .i64 0, .int .i64 0], .int .i64 70]) (by simp [results, Tryz.results13, go_sem, e0, e1]) rfl ⟨rfl, (hB1.setCell (by simp) _).setCell (by simp) _⟩



end Go.Proofs.YteihcodicfoiaaaGreat
