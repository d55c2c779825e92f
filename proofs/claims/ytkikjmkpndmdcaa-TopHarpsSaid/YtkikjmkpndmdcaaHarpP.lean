/-
  What is proved: plain law: a face that is dressed by harps is alike in each harp.
-/
import Derived.Test.YtkikjmkpndmdcaaDress
namespace Go.Proofs.Ytkikjmkpndmdcaa

/-- Where a cell lies behind a base. -/
def jj (S : Nat) (base : Int) (sec : Nat) : Nat := (((sec : Int) - base) % S).toNat
theorem jj_lt {S : Nat} (hS : 0 < S) (base : Int) (sec : Nat) : jj S base sec < S := by
  unfold jj
  have := Int.emod_lt_of_pos ((sec : Int) - base) (b := S) (by omega)
  have := Int.emod_nonneg ((sec : Int) - base) (b := S) (by omega)
  omega
theorem jj_spec {S : Nat} (hS : 0 < S) (base : Int) (sec : Nat) : ∃ q : Int, (sec : Int) - base = S * q + jj S base sec := by
  refine ⟨((sec : Int) - base) / S, ?_⟩
  unfold jj
  have h := Int.mul_ediv_add_emod ((sec : Int) - base) S
  have := Int.emod_nonneg ((sec : Int) - base) (b := S) (by omega)
  omega
theorem jj_uniq {S : Nat} (hS : 0 < S) {base : Int} {sec j : Nat} (hj : j < S) {q : Int} (h : (sec : Int) - base = S * q + j) : jj S base sec = j := by
  unfold jj
  rw [h, Int.add_comm, Int.add_mul_emod_self_left, Int.emod_eq_of_lt (by omega) (by omega)]
  omega

theorem cutAt_eq {S ring ring' sec : Nat} {base : Int} {n : Nat} (hS : 0 < S) (hn : n < S) (hs : sec < S) : ring' * S + sec = cutAt S ring base n ↔ ring' = ring ∧ jj S base sec = n := by
  unfold cutAt
  have e1 := Int.emod_lt_of_pos (base + n) (b := S) (by omega)
  have e2 := Int.emod_nonneg (base + n) (b := S) (by omega)
  have e3 := Int.mul_ediv_add_emod (base + n) S
  obtain ⟨q, hq⟩ : ∃ q, (base + n) / S = q := ⟨_, rfl⟩
  obtain ⟨m, hm⟩ : ∃ m : Nat, ((base + n) % S).toNat = m := ⟨_, rfl⟩
  have hm' : (base + n) % S = m := by omega
  rw [hq, hm'] at e3
  rw [hm]
  have hml : m < S := by omega
  constructor
  · intro h
    have hr : ring' = ring := by
      have a : (ring' * S + sec) / S = (ring * S + m) / S := by rw [h]
      rwa [Nat.mul_comm, Nat.mul_add_div hS, Nat.div_eq_of_lt hs, Nat.mul_comm, Nat.mul_add_div hS, Nat.div_eq_of_lt hml, Nat.add_zero, Nat.add_zero] at a
    subst hr
    have hsm : sec = m := by omega
    subst hsm
    exact ⟨rfl, jj_uniq hS hn (q := -q) (by rw [Int.mul_neg]; omega)⟩
  · rintro ⟨rfl, hj⟩
    obtain ⟨p, hp⟩ := jj_spec hS base sec
    rw [hj] at hp
    have : (sec : Int) % S = (base + n) % S := by
      rw [show (sec : Int) = (base + n) + S * p by omega, Int.add_mul_emod_self_left]
    rw [hm', Int.emod_eq_of_lt (by omega) (by omega)] at this
    omega

def vOf (steep : Int) (n : Nat) : Int := if steep ≤ n then 2 else 1
theorem vOf_ne (steep : Int) (n : Nat) : vOf steep n ≠ 0 := by unfold vOf; split <;> omega

theorem cutK_get {R S ring : Nat} {base steep : Int} {K : List Int} (hS : 0 < S) (hr : ring < R) (hK : K.length = R * S) : ∀ n, n ≤ S → ∀ ring' sec, ring' < R → sec < S →
    (cutK S ring base steep K n).getD (ring' * S + sec) 0 = if ring' = ring ∧ jj S base sec < n ∧ K.getD (ring' * S + sec) 0 = 0 then vOf steep (jj S base sec) else K.getD (ring' * S + sec) 0
  | 0, _, ring', sec, _, _ => by simp [cutK]
  | n + 1, hn, ring', sec, hr', hs => by
    have ih := cutK_get hS hr hK n (by omega) (base := base) (steep := steep)
    have hsz := cutK_len S ring base steep K n
    have hlt := cell_lt hr' hs
    -- the cell that is cut
    have e1 := Int.emod_lt_of_pos (base + n) (b := S) (by omega)
    have e2 := Int.emod_nonneg (base + n) (b := S) (by omega)
    have hat : cutAt S ring base n = ring * S + ((base + n) % S).toNat := rfl
    have hm : ((base + n) % S).toNat < S := by omega
    have hjm : jj S base ((base + n) % S).toNat = n := ((cutAt_eq (ring' := ring) (base := base) hS (show n < S by omega) hm).1 hat.symm).2
    have hcell := ih ring ((base + n) % S).toNat hr hm
    rw [hjm, ← hat, if_neg (by omega)] at hcell
    simp only [cutK]
    rw [hcell]
    by_cases hz : K.getD (cutAt S ring base n) 0 = 0
    · rw [if_pos hz]
      by_cases hc : ring' * S + sec = cutAt S ring base n
      · obtain ⟨h1, h2⟩ := (cutAt_eq (base := base) hS (show n < S by omega) hs).1 hc
        have hl : cutAt S ring base n < (cutK S ring base steep K n).length := by rw [hsz, hK, ← hc]; exact hlt
        have hR : (if ring' = ring ∧ jj S base sec < n + 1 ∧ K.getD (ring' * S + sec) 0 = 0 then vOf steep (jj S base sec) else K.getD (ring' * S + sec) 0) = vOf steep n := by
          rw [if_pos ⟨h1, by omega, by rw [hc]; exact hz⟩, h2]
        rw [hR, hc, List.getD_eq_getElem?_getD, List.getElem?_set_self hl]
        rfl
      · have hne : ¬ (ring' = ring ∧ jj S base sec = n) := fun h => hc ((cutAt_eq (base := base) hS (show n < S by omega) hs).2 h)
        rw [List.getD_eq_getElem?_getD, List.getElem?_set_ne (fun e => hc e.symm), ← List.getD_eq_getElem?_getD, ih ring' sec hr' hs]
        by_cases hk : ring' = ring ∧ jj S base sec < n ∧ K.getD (ring' * S + sec) 0 = 0
        · rw [if_pos hk, if_pos ⟨hk.1, by omega, hk.2.2⟩]
        · rw [if_neg hk, if_neg (fun h => hk ⟨h.1, by
            have : jj S base sec ≠ n := fun e => hne ⟨h.1, e⟩
            omega, h.2.2⟩)]
    · rw [if_neg hz, ih ring' sec hr' hs]
      by_cases hk : ring' = ring ∧ jj S base sec < n ∧ K.getD (ring' * S + sec) 0 = 0
      · rw [if_pos hk, if_pos ⟨hk.1, by omega, hk.2.2⟩]
      · rw [if_neg hk, if_neg (fun h => hk ⟨h.1, by
          have : jj S base sec ≠ n := fun e => hz (by rw [← (cutAt_eq (base := base) hS (show n < S by omega) hs).2 ⟨h.1, e⟩]; exact h.2.2)
          omega, h.2.2⟩)]

/-- Behind the first h harps. -/
theorem harp_get {R S V H ring : Nat} {x : Fur} {K : List Int} (hV : 0 < V) (hHV : H * V = S) (hS : 0 < S) (hr : ring < R) (hK : K.length = R * S) (hL : furLen x < V) : ∀ h, h ≤ H → ∀ ring' sec, ring' < R → sec < S →
    (harpK R S V x ring K h).getD (ring' * S + sec) 0 = if ring' = ring ∧ jj S (furBase R x ring 0) sec / V < h ∧ jj S (furBase R x ring 0) sec % V < furLen x ∧ K.getD (ring' * S + sec) 0 = 0 then vOf x.steep (jj S (furBase R x ring 0) sec % V) else K.getD (ring' * S + sec) 0
  | 0, _, ring', sec, _, _ => by simp [harpK]
  | h + 1, hh, ring', sec, hr', hs => by
    have ih := harp_get hV hHV hS hr hK hL h (by omega) ring' sec hr' hs
    have hlen : (harpK R S V x ring K h).length = R * S := by rw [harpK_len, hK]
    have hmul : (h + 1) * V ≤ S := by rw [← hHV]; exact Nat.mul_le_mul_right V hh
    rw [Nat.add_mul, Nat.one_mul] at hmul
    have hc := cutK_get (base := furBase R x ring ((h * V : Nat) : Int)) (steep := x.steep) hS hr hlen (furLen x) (by omega) ring' sec hr' hs
    rw [harpK, hc, ih]
    have hb : furBase R x ring ((h * V : Nat) : Int) = furBase R x ring 0 + (h * V : Nat) := by unfold furBase; omega
    obtain ⟨base, hbase⟩ : ∃ base, furBase R x ring 0 = base := ⟨_, rfl⟩
    rw [hbase] at hb
    rw [hb, hbase]
    have hjl := jj_lt hS base sec
    obtain ⟨q, hq⟩ := jj_spec hS base sec
    obtain ⟨j, hj⟩ : ∃ j, jj S base sec = j := ⟨_, rfl⟩
    rw [hj] at hq hjl
    rw [hj]
    obtain ⟨hv, hhv⟩ : ∃ hv, h * V = hv := ⟨_, rfl⟩
    rw [hhv] at hmul ⊢
    have hdm := Nat.div_add_mod j V
    have hmd := Nat.mod_lt j hV
    by_cases hge : hv ≤ j
    · have e : jj S (base + (hv : Nat)) sec = j - hv := jj_uniq hS (by omega) (q := q) (by omega)
      rw [e]
      by_cases hin : j - hv < furLen x
      · -- inside this harp
        have hdiv : j / V = h := by
          refine Nat.div_eq_of_lt_le (by rw [hhv]; exact hge) ?_
          rw [Nat.add_mul, hhv]; omega
        have hmod : j % V = j - hv := by
          have : V * (j / V) = hv := by rw [hdiv, Nat.mul_comm]; exact hhv
          omega
        rw [hdiv, hmod]
        have n1 : ¬ (ring' = ring ∧ h < h ∧ j - hv < furLen x ∧ K.getD (ring' * S + sec) 0 = 0) := fun a => by omega
        rw [if_neg n1]
        by_cases hz : ring' = ring ∧ K.getD (ring' * S + sec) 0 = 0
        · rw [if_pos ⟨hz.1, hin, hz.2⟩, if_pos ⟨hz.1, by omega, hin, hz.2⟩]
        · rw [if_neg (fun a => hz ⟨a.1, a.2.2⟩), if_neg (fun a => hz ⟨a.1, a.2.2.2⟩)]
      · rw [if_neg (fun a => hin a.2.1)]
        by_cases hlt : j < hv + V
        · -- in this harp's land
          have hdiv : j / V = h := by
            refine Nat.div_eq_of_lt_le (by rw [hhv]; exact hge) ?_
            rw [Nat.add_mul, hhv]; omega
          have hmod : j % V = j - hv := by
            have : V * (j / V) = hv := by rw [hdiv, Nat.mul_comm]; exact hhv
            omega
          rw [hdiv, hmod, if_neg (fun a => hin a.2.2.1), if_neg (fun a => hin a.2.2.1)]
        · have hdiv : h + 1 ≤ j / V := by
            rw [Nat.le_div_iff_mul_le hV, Nat.add_mul, hhv]; omega
          rw [if_neg (fun a => by omega), if_neg (fun a => by omega)]
    · have hdiv : j / V < h := by
        rw [Nat.div_lt_iff_lt_mul hV, hhv]; omega
      have hS2 : hv + V ≤ S := hmul
      have e : jj S (base + (hv : Nat)) sec = j + S - hv := jj_uniq hS (by omega) (q := q - 1) (by rw [Int.mul_sub]; omega)
      rw [e, if_neg (fun a => by omega)]
      by_cases hk : ring' = ring ∧ j / V < h ∧ j % V < furLen x ∧ K.getD (ring' * S + sec) 0 = 0
      · rw [if_pos hk, if_pos ⟨hk.1, by omega, hk.2.2.1, hk.2.2.2⟩]
      · rw [if_neg hk, if_neg (fun a => hk ⟨a.1, hdiv, a.2.2.1, a.2.2.2⟩)]

def PerK (R S V : Nat) (K : List Int) : Prop := ∀ ring sec, ring < R → sec < S → K.getD (ring * S + (sec + V) % S) 0 = K.getD (ring * S + sec) 0

theorem jj_rot {S V H : Nat} (hV : 0 < V) (hHV : H * V = S) (hS : 0 < S) (base : Int) (sec : Nat) : jj S base ((sec + V) % S) % V = jj S base sec % V := by
  obtain ⟨q, hq⟩ := jj_spec hS base sec
  have hjl := jj_lt hS base sec
  obtain ⟨j, hj⟩ : ∃ j, jj S base sec = j := ⟨_, rfl⟩
  rw [hj] at hq hjl ⊢
  have hdvd : V ∣ S := ⟨H, by rw [← hHV, Nat.mul_comm]⟩
  have hm := Nat.div_add_mod (sec + V) S
  obtain ⟨p, hp⟩ : ∃ p, (sec + V) / S = p := ⟨_, rfl⟩
  obtain ⟨m, hme⟩ : ∃ m, (sec + V) % S = m := ⟨_, rfl⟩
  rw [hp, hme] at hm
  rw [hme]
  have hjm := Nat.div_add_mod (j + V) S
  obtain ⟨p2, hp2⟩ : ∃ p2, (j + V) / S = p2 := ⟨_, rfl⟩
  obtain ⟨j2, hj2⟩ : ∃ j2, (j + V) % S = j2 := ⟨_, rfl⟩
  rw [hp2, hj2] at hjm
  have hj2l : j2 < S := by rw [← hj2]; exact Nat.mod_lt _ hS
  have e : jj S base m = j2 := jj_uniq hS hj2l (q := q + p2 - p) (by
    rw [Int.mul_sub, Int.mul_add]
    have a1 : (S : Int) * (p : Int) = ((S * p : Nat) : Int) := by simp
    have a2 : (S : Int) * (p2 : Int) = ((S * p2 : Nat) : Int) := by simp
    rw [a1, a2]
    omega)
  rw [e, ← hj2, Nat.mod_mod_of_dvd _ hdvd, Nat.add_mod_right]

theorem harp_per {R S V H ring : Nat} {x : Fur} {K : List Int} (hV : 0 < V) (hHV : H * V = S) (hS : 0 < S) (hr : ring < R) (hK : K.length = R * S) (hL : furLen x < V) (hp : PerK R S V K) : PerK R S V (harpK R S V x ring K H) := by
  intro ring' sec hr' hs
  have hs2 : (sec + V) % S < S := Nat.mod_lt _ hS
  have hdiv : ∀ sec, jj S (furBase R x ring 0) sec / V < H := fun sec => by
    rw [Nat.div_lt_iff_lt_mul hV, hHV]
    exact jj_lt hS _ _
  rw [harp_get hV hHV hS hr hK hL H (Nat.le_refl _) ring' _ hr' hs2, harp_get hV hHV hS hr hK hL H (Nat.le_refl _) ring' sec hr' hs, jj_rot hV hHV hS, hp ring' sec hr' hs]
  by_cases hk : ring' = ring ∧ jj S (furBase R x ring 0) sec % V < furLen x ∧ K.getD (ring' * S + sec) 0 = 0
  · rw [if_pos ⟨hk.1, hdiv _, hk.2⟩, if_pos ⟨hk.1, hdiv _, hk.2⟩]
  · rw [if_neg (fun a => hk ⟨a.1, a.2.2⟩), if_neg (fun a => hk ⟨a.1, a.2.2⟩)]

theorem furLen_lt {x : Fur} {V R : Nat} (h : FurIn x V R) : furLen x < V := by
  have h1 := h.sum
  have h2 := h.s0
  have h3 := h.e0
  unfold furLen
  omega
theorem ring_per {R S V H : Nat} {x : Fur} {K : List Int} (hV : 0 < V) (hHV : H * V = S) (hS : 0 < S) (hK : K.length = R * S) (hx : FurIn x V R) (hp : PerK R S V K) : ∀ j, x.from_.toNat + j ≤ R → PerK R S V (ringK R S V H x K j)
  | 0, _ => hp
  | j + 1, hj => harp_per hV hHV hS (by omega) (by rw [ringK_len, hK]) (furLen_lt hx) (ring_per hV hHV hS hK hx hp j (by omega))
theorem fur_per {R S V H : Nat} {l : List Fur} {K : List Int} (hV : 0 < V) (hHV : H * V = S) (hS : 0 < S) (hK : K.length = R * S) (hx : ∀ x ∈ l, FurIn x V R) (hp : PerK R S V K) : ∀ k, k ≤ l.length → PerK R S V (furK R S V H l K k)
  | 0, _ => hp
  | k + 1, hk => by
    have hm := hx _ (getD_mem fur0 (show k < l.length by omega))
    have := hm.f1
    have := hm.f0
    exact ring_per hV hHV hS (by rw [furK_len, hK]) hm (fur_per hV hHV hS hK hx hp k (by omega)) _ (by omega)
theorem harpK_in {R S V : Nat} {x : Fur} {ring : Nat} {K : List Int} (h : ∀ y ∈ K, 0 ≤ y ∧ y ≤ 2) : ∀ n, ∀ y ∈ harpK R S V x ring K n, 0 ≤ y ∧ y ≤ 2
  | 0 => h
  | n + 1 => cutK_in _ _ _ _ (harpK_in h n) _
theorem ringK_in {R S V H : Nat} {x : Fur} {K : List Int} (h : ∀ y ∈ K, 0 ≤ y ∧ y ≤ 2) : ∀ n, ∀ y ∈ ringK R S V H x K n, 0 ≤ y ∧ y ≤ 2
  | 0 => h
  | n + 1 => harpK_in (ringK_in h n) _
theorem furK_in {R S V H : Nat} {l : List Fur} {K : List Int} (h : ∀ y ∈ K, 0 ≤ y ∧ y ≤ 2) : ∀ n, ∀ y ∈ furK R S V H l K n, 0 ≤ y ∧ y ≤ 2
  | 0 => h
  | n + 1 => ringK_in (furK_in h n) _
theorem zero_per (R S V : Nat) : PerK R S V (List.replicate (R * S) 0) := by
  intro ring sec _ _
  have : ∀ i, (List.replicate (R * S) (0 : Int)).getD i 0 = 0 := fun i => by
    rw [List.getD_eq_getElem?_getD, List.getElem?_replicate]
    split <;> rfl
  rw [this, this]

end Go.Proofs.Ytkikjmkpndmdcaa
