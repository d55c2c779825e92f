/-
  Plain laws of standing: after a period all wheels stand as before.
-/
import Derived.Test.YtheifigkclegdaaLawS
namespace Go.Proofs.Ytheifigkclegdaa
open Go.RowKit

theorem low_one {d : Nat} (h1 : 1 ≤ d) (h2 : d ≤ 1000000000) : low 1 d = ⟨1, d, 0⟩ := by
  rw [low_eq 1 d 1 d h1 h1 rfl (by simp)]
  rw [if_pos ⟨by omega, h2⟩]

theorem perGo_some : ∀ (rs : List Res) (n m : Nat), perGo rs n = some m → 1 ≤ n → (∀ r ∈ rs, 1 ≤ r.den) → n ∣ m ∧ 1 ≤ m ∧ ∀ r ∈ rs, r.den ∣ m
  | [], n, m, h, hn, _ => by
    unfold perGo at h
    injection h with h
    subst h
    exact ⟨Nat.dvd_refl _, hn, fun _ h => by cases h⟩
  | r :: rs, n, m, h, hn, hd => by
    unfold perGo at h
    split at h
    · split at h
      · cases h
      · have hr := hd r (by simp)
        have g0 : 0 < Nat.gcd n r.den := Nat.gcd_pos_of_pos_right _ (by omega)
        have h1 : 1 ≤ r.den / Nat.gcd n r.den := Nat.div_pos (Nat.gcd_le_right _ (by omega)) g0
        obtain ⟨k1, k2, k3⟩ := perGo_some rs _ m h (Nat.mul_le_mul hn h1) fun r' h' => hd r' (by simp [h'])
        refine ⟨Nat.dvd_trans (Nat.dvd_mul_right _ _) k1, k2, fun r' h' => ?_⟩
        rcases List.mem_cons.1 h' with rfl | h'
        · have e : r'.den = Nat.gcd n r'.den * (r'.den / Nat.gcd n r'.den) := (Nat.mul_div_cancel' (Nat.gcd_dvd_right _ _)).symm
          have h2 : Nat.gcd n r'.den * (r'.den / Nat.gcd n r'.den) ∣ n * (r'.den / Nat.gcd n r'.den) := Nat.mul_dvd_mul_right (Nat.gcd_dvd_left _ _) _
          rw [← e] at h2
          exact Nat.dvd_trans h2 k1
        · exact k3 r' h'
    · cases h

theorem standV_add {r : Res} {t n z : Nat} (hd : 1 ≤ r.den) (h : r.den ∣ n) : standV r (t + n) z = standV r t z := by
  obtain ⟨q, rfl⟩ := h
  unfold standV
  have e : (t + r.den * q) * r.num * z = t * r.num * z + r.den * (q * r.num * z) := by
    rw [Nat.add_mul, Nat.add_mul]
    congr 1
    ac_rfl
  rw [e, Nat.add_mul_div_left _ _ (by omega), Nat.add_mul_mod_self_right]

theorem shaftL_mem {L : List Mesh} {i : Nat} (h : i ≤ L.length) : shaftR L i ∈ shaftL L := by
  unfold shaftL
  exact List.mem_map.2 ⟨i, by simp; omega, rfl⟩

theorem den_pos {L : List Mesh} (hok : okTrain L = true) (hs : shaftsOK L (L.length + 1)) : ∀ r ∈ shaftL L, 1 ≤ r.den := by
  intro r hr
  obtain ⟨i, hi, rfl⟩ := List.mem_map.1 hr
  simp at hi
  exact (shaft_fit1 hok i (hs i hi)).2.1

theorem standsI_add {L : List Mesh} (hok : okTrain L = true) (hs : shaftsOK L (L.length + 1)) {n t : Nat} (h : perGo (shaftL L) 1 = some n) : standsI L (t + n) L.length = standsI L t L.length := by
  obtain ⟨_, _, k⟩ := perGo_some _ _ _ h (by omega) (den_pos hok hs)
  unfold standsI
  rw [List.flatMap_def, List.flatMap_def]
  congr 1
  refine List.map_congr_left fun i hi => ?_
  have hi' : i < L.length := by simpa using hi
  rw [standV_add (shaft_fit1 hok i (hs i (by omega))).2.1 (k _ (shaftL_mem (by omega))), standV_add (shaft_fit1 hok (i + 1) (hs _ (by omega))).2.1 (k _ (shaftL_mem (by omega)))]

theorem standsI_head {L : List Mesh} (hok : okTrain L = true) (t : Nat) : ∃ m rest, L = m :: rest ∧ ∃ xs : List Int, standsI L t L.length = ((t % m.dr.toNat : Nat) : Int) :: ((t % m.dn.toNat : Nat) : Int) :: xs := by
  obtain ⟨k1, k2, k3⟩ := ok_train hok
  match L, k1 with
  | m :: rest, _ =>
    have hm := ok_mesh (k3 m (by simp))
    have hd1 : 1 ≤ m.dr.toNat := by omega
    have hd2 : 1 ≤ m.dn.toNat := by omega
    refine ⟨m, rest, rfl, (List.range rest.length).flatMap (fun i => [(standV (shaftR (m :: rest) (i + 1)) t ((drs (m :: rest)).getD (i + 1) 1) : Int), (standV (shaftR (m :: rest) (i + 1 + 1)) t ((dns (m :: rest)).getD (i + 1) 1) : Int)]), ?_⟩
    have e0 : shaftR (m :: rest) 0 = ⟨1, m.dr.toNat, 0⟩ := by
      have : shaftR (m :: rest) 0 = low 1 m.dr.toNat := by simp [shaftR, drs, dns, pr]
      rw [this]
      exact low_one hd1 (by omega)
    have e1 : shaftR (m :: rest) 1 = ⟨1, m.dn.toNat, 0⟩ := by
      have : shaftR (m :: rest) 1 = low m.dr.toNat (m.dn.toNat * m.dr.toNat) := by simp [shaftR, drs, dns, pr]
      rw [this, low_congr _ _ 1 m.dn.toNat (Nat.mul_le_mul hd2 hd1) hd2 (by rw [Nat.one_mul, Nat.mul_comm])]
      exact low_one hd2 (by omega)
    have s0 : standV (shaftR (m :: rest) 0) t ((drs (m :: rest)).getD 0 1) = t % m.dr.toNat := by
      rw [e0]
      simp only [standV, drs, List.map_cons, List.getD_cons_zero, Nat.mul_one]
      rw [Nat.mul_div_cancel _ hd1]
    have s1 : standV (shaftR (m :: rest) 1) t ((dns (m :: rest)).getD 0 1) = t % m.dn.toNat := by
      rw [e1]
      simp only [standV, dns, List.map_cons, List.getD_cons_zero, Nat.mul_one]
      rw [Nat.mul_div_cancel _ hd2]
    unfold standsI
    rw [List.length_cons, List.range_succ_eq_map, List.flatMap_cons, List.flatMap_map, s0, s1]
    rfl

/-- What the law asks of Stands and Period. -/
theorem again_ok {L : List Mesh} {t : Int} (h : (standsR L t).2 = 0) :
    okTrain L = true ∧ 0 ≤ t ∧ t ≤ 1000000 ∧ (standsR L t).1.length = 2 * L.length ∧
    (∃ m rest, L = m :: rest ∧ ∃ xs, (standsR L t).1 = (t % m.dr) :: (t % m.dn) :: xs) ∧
    ((periodR L).2 = 0 ∨ ((periodR L).2 = 2 ∧ (periodR L).1 = 0)) ∧
    ((periodR L).2 = 0 → 1 ≤ (periodR L).1 ∧ ((periodR L).1 ≤ 1000000 - t → standsR L (t + (periodR L).1) = ((standsR L t).1, 0))) := by
  unfold standsR at h
  split at h
  · rename_i ha
    obtain ⟨hok, h0, h1⟩ := asked_ok ha
    split at h
    · rename_i hs
      have hs' := (shaftsB_ok L).1 hs
      obtain ⟨t, rfl⟩ := Int.eq_ofNat_of_zero_le h0
      have hR : standsR L t = (standsI L t L.length, 0) := by rw [standsR, if_pos ha, if_pos hs]; simp
      have hP : periodR L = perV (perGo (shaftL L) 1) := by rw [periodR, if_pos hok]
      refine ⟨hok, h0, h1, by rw [hR, standsI_len], ?_, ?_, ?_⟩
      · obtain ⟨m, rest, e, xs, hx⟩ := standsI_head hok t
        obtain ⟨k1, k2, k3⟩ := ok_train hok
        have hm := ok_mesh (k3 m (by rw [e]; simp))
        refine ⟨m, rest, e, xs, ?_⟩
        rw [hR]
        show standsI L t L.length = _
        rw [hx, Int.natCast_emod, Int.natCast_emod]
        have a1 : ((m.dr.toNat : Nat) : Int) = m.dr := by omega
        have a2 : ((m.dn.toNat : Nat) : Int) = m.dn := by omega
        rw [a1, a2]
      · rw [hP]
        cases perGo (shaftL L) 1 <;> simp [perV]
      · intro hp
        rw [hP] at hp ⊢
        cases hg : perGo (shaftL L) 1 with
        | none => rw [hg] at hp; simp [perV] at hp
        | some n =>
          obtain ⟨_, k2, _⟩ := perGo_some _ _ _ hg (by omega) (den_pos hok hs')
          refine ⟨by simp only [perV]; omega, fun hle => ?_⟩
          simp only [perV] at hle ⊢
          have ha' : askedR L ((t : Int) + n) = 0 := by
            rw [askedR, if_pos hok, if_pos (by simp [inB]; omega)]
          rw [standsR, if_pos ha', if_pos hs, hR, show ((t : Int) + n).toNat = t + n by omega, standsI_add hok hs' hg]
    · simp at h
  · rename_i ha
    exact absurd h ha

theorem again_bad {L : List Mesh} {t : Int} (h : (standsR L t).2 ≠ 0) : (standsR L t).1 = [] := by
  unfold standsR at h ⊢
  split
  · split
    · rename_i h1 h2
      rw [if_pos h1, if_pos h2] at h
      exact absurd rfl h
    · rfl
  · rfl

end Go.Proofs.Ytheifigkclegdaa
