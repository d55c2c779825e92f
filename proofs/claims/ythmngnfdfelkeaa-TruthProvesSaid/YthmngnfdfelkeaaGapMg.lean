/-
  What is proved: the contracts of (*gaps).sum, lay, lifted.
-/
import Derived.Test.YthmngnfdfelkeaaMg4
import Derived.Deep.DeepCutAuto
namespace Go.Proofs.Ythmngnfdfelkeaa
open Go.RowKit
attribute [local go_sem ↓] max_int min_int

/-- Two lists of heights of a face. -/
structure Gp where
  f : Fac
  bed : List Int
  run : List Int
/-- Where they lie. -/
structure GLoc where
  a1 : Option Addr
  c1 : Nat
  a2 : Option Addr
  c2 : Nat
  a3 : Option Addr
  c3 : Nat
def Gp.cells (p : Gp) (z : GLoc) : Array Value := #[.int .i64 p.f.eye, .int .i64 p.f.rings, .int .i64 p.f.sec, .slice z.a1 p.f.kinds.length z.c1, .slice z.a2 p.bed.length z.c2, .slice z.a3 p.run.length z.c3]
def Gp.good (p : Gp) : Bool := p.bed.length == p.f.kinds.length && p.run.length == p.f.kinds.length && flatB 100000 p.bed && flatB 100000 p.run
def Gp.ok (p : Gp) : Bool := p.f.ok && p.good
structure GpAt (w : World) (p : Gp) (z : GLoc) : Prop where
  k : RowAt w z.a1 (intCells p.f.kinds)
  b : RowAt w z.a2 (intCells p.bed)
  r : RowAt w z.a3 (intCells p.run)
  n1 : p.f.kinds.length ≤ 9223372036854775807
  n2 : p.bed.length ≤ 9223372036854775807
  n3 : p.run.length ≤ 9223372036854775807
theorem GpAt.below {w w' : World} {p : Gp} {z : GLoc} (h : GpAt w p z) (hb : Below w.heap.size w w') : GpAt w' p z := ⟨h.k.below hb, h.b.below hb, h.r.below hb, h.n1, h.n2, h.n3⟩
theorem GpAt.alloc {w : World} {p : Gp} {z : GLoc} (h : GpAt w p z) (o : Obj) : GpAt (w.alloc o) p z := h.below ((Below.refl _ _).alloc (Nat.le_refl _) o)

theorem gp_ok {p : Gp} (h : p.ok = true) : p.f.ok = true ∧ p.bed.length = p.f.kinds.length ∧ p.run.length = p.f.kinds.length ∧ (∀ x ∈ p.bed, -100000 ≤ x ∧ x ≤ 100000) ∧ (∀ x ∈ p.run, -100000 ≤ x ∧ x ≤ 100000) := by
  simp only [Gp.ok, Gp.good, flatB, inB, Bool.and_eq_true, beq_iff_eq, List.all_eq_true, decide_eq_true_eq] at h
  exact ⟨h.1, h.2.1.1.1, h.2.1.1.2, h.2.1.2, h.2.2⟩

/-- Both heights at a cell of the bed, at a turn. -/
def overN (p : Gp) (c t : Nat) : Nat := c / p.f.sec.toNat * p.f.sec.toNat + (c % p.f.sec.toNat + p.f.sec.toNat - t) % p.f.sec.toNat
def sumV (p : Gp) (c t : Nat) : Int := p.bed.getD c 0 + p.run.getD (overN p c t) 0

theorem over_lt {p : Gp} (h : p.ok = true) {c t : Nat} (hc : c < p.f.kinds.length) : overN p c t < p.f.kinds.length := by
  obtain ⟨h1, _⟩ := gp_ok h
  obtain ⟨k1, k2, k3, k4, k5, k6, k7, k8⟩ := fac_ok h1
  unfold overN
  obtain ⟨S, hS⟩ : ∃ S : Nat, p.f.sec = S := ⟨p.f.sec.toNat, by omega⟩
  obtain ⟨R, hR⟩ : ∃ R : Nat, p.f.rings = R := ⟨p.f.rings.toNat, by omega⟩
  have hn : p.f.kinds.length = R * S := by
    have : (p.f.kinds.length : Int) = ((R * S : Nat) : Int) := by rw [k7, hS, hR]; simp
    omega
  rw [hS, Int.toNat_natCast]
  have h3 : c / S < R := Nat.div_lt_of_lt_mul (by rw [Nat.mul_comm, ← hn]; exact hc)
  have h4 : (c % S + S - t) % S < S := Nat.mod_lt _ (by omega)
  have h5 : (c / S + 1) * S ≤ R * S := Nat.mul_le_mul_right S h3
  rw [Nat.add_mul] at h5
  omega

theorem sum_bound {p : Gp} (h : p.ok = true) {c t : Nat} (hc : c < p.f.kinds.length) : -200000 ≤ sumV p c t ∧ sumV p c t ≤ 200000 := by
  obtain ⟨_, h2, h3, h4, h5⟩ := gp_ok h
  have hk := over_lt h (t := t) hc
  have e1 := h4 _ (getD_mem 0 (show c < p.bed.length by omega))
  have e2 := h5 _ (getD_mem 0 (show overN p c t < p.run.length by omega))
  unfold sumV
  omega

set_option maxRecDepth 100000 in
set_option maxHeartbeats 4000000 in
theorem sum_any (g : Nat) (p : Gp) (z : GLoc) (c t : Nat) (w : World) (G : Bk w g 154 (p.cells z)) (hp : GpAt w p z) (hok : p.ok = true) (hc : c < p.f.kinds.length) (ht : (t : Int) < p.f.sec) :
    Calls Try.prog 87 #[.pointer (some ⟨g, 0, none⟩), .int .i64 c, .int .i64 t] w fun e w' => e = .returned (.int .i64 (sumV p c t)) ∧ Below w.heap.size w w' := by
  obtain ⟨h1, h2, h3, h4, h5⟩ := gp_ok hok
  obtain ⟨k1, k2, k3, k4, k5, k6, k7, k8⟩ := fac_ok h1
  have hk := over_lt hok (t := t) hc
  obtain ⟨S, hS⟩ : ∃ S : Nat, p.f.sec = S := ⟨p.f.sec.toNat, by omega⟩
  have e1 := h4 _ (getD_mem 0 (show c < p.bed.length by omega))
  have e2 := h5 _ (getD_mem 0 (show overN p c t < p.run.length by omega))
  obtain ⟨b2, o2, ha2, hb2, hc2⟩ := hp.b.intD (by omega)
  obtain ⟨b3, o3, ha3, hb3, hc3⟩ := hp.r.intD (by omega)
  have d2 := hc2 c (by omega)
  have d3 := hc3 (overN p c t) (by omega)
  have x2 := G.cell 2
  have x4 := G.cell 4
  have x5 := G.cell 5
  simp only [Gp.cells, ha2, ha3, hS] at x2 x4 x5
  simp at x2 x4 x5
  have hO : (overN p c t : Int) = (c : Int) / S * S + ((c : Int) % S - t + S) % S := by
    unfold overN
    rw [hS, Int.toNat_natCast]
    rw [Int.natCast_add, Int.natCast_mul, Int.natCast_ediv, Int.natCast_emod, Int.natCast_sub (by omega)]
    congr 2
    rw [Int.natCast_add, Int.natCast_emod]
    omega
  replace hO := hO.symm
  rw [Int.add_emod_right] at hO
  have hV : sumV p c t = p.bed.getD c 0 + p.run.getD (overN p c t) 0 := rfl
  have HV := Lib.hid hV
  have hm1 : 0 ≤ (c : Int) % S ∧ (c : Int) % S < S := ⟨Int.emod_nonneg _ (by omega), Int.emod_lt_of_pos _ (by omega)⟩
  have hm2 : 0 ≤ ((c : Int) % S - t + S) % S ∧ ((c : Int) % S - t + S) % S < S := ⟨Int.emod_nonneg _ (by omega), Int.emod_lt_of_pos _ (by omega)⟩
  have hd1 : 0 ≤ (c : Int) / S := Int.ediv_nonneg (by omega) (by omega)
  have hd2 : (c : Int) / S * S ≤ c := by have := Int.mul_ediv_add_emod (c : Int) S; rw [Int.mul_comm] at this; omega
  have hd3 : 0 ≤ (c : Int) / S * S := Int.mul_nonneg hd1 (by omega)
  have hd4 : (c : Int) / S ≤ c := Int.ediv_le_self _ (by omega)
  have hn1 : 0 ≤ (c : Int) % S - t + S ∧ (c : Int) % S - t + S ≤ 1000 := by omega
  have hsz : ((S : Int) == 0) = false := by simp; omega
  rw [hS] at k5 k6 ht
  have q2 : (c : Int) < p.bed.length := by omega
  have q3 : (overN p c t : Int) < p.run.length := by omega
  have HB := Below.refl w.heap.size w
  clear hV hc2 hc3 hp h4 h5 h1 hok ha2 ha3 hS h2 h3 k7
  generalize p.run.getD (overN p c t) 0 = y at *
  generalize p.bed.getD c 0 = x at *
  generalize overN p c t = o at *
  generalize sumV p c t = sv at *
  generalize p.bed.length = bl at *
  generalize p.run.length = rl at *
  generalize hmm : (c : Int) % S = m at *
  generalize hdd : (c : Int) / S = d at *
  go_enter Try.func87, Try.ntmps87
  go_upto_region 1 with fail
  go_quiet (fail)
  go_upto_region 2 with fail
  have hS0 : S ≠ 0 := by omega
  have hw1 := IntWalk.i64_in (m - t) (by omega)
  have hw2 := IntWalk.i64_in (d * S) (by omega)
  have hw3 := IntWalk.i64_in (m - t + S) (by omega)
  have hw4 := IntWalk.i64_in (o : Int) (by omega)
  have hw5 : (m - t + S).tmod S = (m - t + S) % S := Int.tmod_eq_emod_of_nonneg hn1.1
  go_quiet (fail)
  go_wp2_with fail
  go_ret
  exact ⟨by rw [HV.out]; rfl, below_drewN (below_drewN HB _) _⟩

/-- What lay gives: 10 for a face that is not valid, 1 for heights that do not fit. -/
def layE (p : Gp) : Int := if p.f.ok then if p.good then 0 else 1 else 10

def LayPost (p : Gp) (z : GLoc) (w : World) (e : Ending) (w' : World) : Prop :=
  Below w.heap.size w w' ∧ ((p.ok = false ∧ e = .returned (.tuple #[.pointer none, .int .i64 (layE p)])) ∨
    (p.ok = true ∧ ∃ g, e = .returned (.tuple #[.pointer (some ⟨g, 0, none⟩), .int .i64 0]) ∧ w.heap.size ≤ g ∧ Bk w' g 154 (p.cells z)))

set_option maxRecDepth 100000 in
set_option maxHeartbeats 4000000 in
theorem lay_any (p : Gp) (z : GLoc) (w : World) (hp : GpAt w p z) :
    Calls Try.prog 83 #[p.f.val z.a1 z.c1, .slice z.a2 p.bed.length z.c2, .slice z.a3 p.run.length z.c3] w (LayPost p z w) := by
  have n2 := hp.n2
  have n3 := hp.n3
  have HV : Hid (∀ W, Below w.heap.size w W → Calls Try.prog 114 #[p.f.val z.a1 z.c1] W fun e w' => e = .returned (.bool p.f.ok) ∧ Below W.heap.size W w') := fun W h => valid_any _ _ _ _ (hp.below h).k hp.n1
  have HF : Hid (∀ W, Below w.heap.size w W → Calls Try.prog 67 #[.int .i64 100000, .slice z.a2 p.bed.length z.c2] W fun e w' => e = .returned (.bool (flatB 100000 p.bed)) ∧ Below W.heap.size W w') := fun W h => flat_any _ _ _ _ _ (hp.below h).b hp.n2 (by omega) (by omega)
  have HR : Hid (∀ W, Below w.heap.size w W → Calls Try.prog 67 #[.int .i64 100000, .slice z.a3 p.run.length z.c3] W fun e w' => e = .returned (.bool (flatB 100000 p.run)) ∧ Below W.heap.size W w') := fun W h => flat_any _ _ _ _ _ (hp.below h).r hp.n3 (by omega) (by omega)
  unfold Fac.val at HV ⊢
  have hB : Below w.heap.size w (w.alloc (.cells #[.int .i64 p.f.eye, .int .i64 p.f.rings, .int .i64 p.f.sec, .slice z.a1 p.f.kinds.length z.c1] 24)) := (Below.refl _ _).alloc (Nat.le_refl _) _
  have X : Bk (w.alloc (.cells #[.int .i64 p.f.eye, .int .i64 p.f.rings, .int .i64 p.f.sec, .slice z.a1 p.f.kinds.length z.c1] 24)) w.heap.size 24 #[.int .i64 p.f.eye, .int .i64 p.f.rings, .int .i64 p.f.sec, .slice z.a1 p.f.kinds.length z.c1] := bk_last rfl
  go_enter Try.func83, Try.ntmps83
  go_wp2_with fail
  generalize w.alloc (.cells _ 24) = V at *
  refine (HV.out _ hB).mono ?_
  rintro e w1 ⟨rfl, hb1⟩
  replace hB := hB.trans (hb1.mono hB.size)
  replace X := X.keep hb1
  clear hb1
  have x0 := X.cell 0
  have x1 := X.cell 1
  have x2 := X.cell 2
  have x3 := X.cell 3
  simp at x0 x1 x2 x3
  cases hv : p.f.ok
  · have HL : Hid (p.ok = false ∧ layE p = 10) := ⟨by simp [Gp.ok, hv], by simp [layE, hv]⟩
    clear hv
    go_wp2_with fail
    go_ret2
    exact ⟨hB, .inl ⟨HL.out.1, by rw [HL.out.2]; rfl⟩⟩
  · by_cases h1 : p.bed.length = p.f.kinds.length
    · by_cases h2 : p.run.length = p.f.kinds.length
      · have q1 : ((p.bed.length : Int) != p.f.kinds.length) = false := by simp [h1]
        have q2 : ((p.run.length : Int) != p.f.kinds.length) = false := by simp [h2]
        have HL : Hid ((p.ok = true ↔ flatB 100000 p.bed = true ∧ flatB 100000 p.run = true) ∧ (¬ (flatB 100000 p.bed = true ∧ flatB 100000 p.run = true) → layE p = 1)) := ⟨by simp [Gp.ok, Gp.good, hv, h1, h2], fun h => by
          have : p.good = false := by
            cases hg : p.good
            · rfl
            · simp [Gp.good, h1, h2] at hg
              exact absurd hg h
          simp [layE, hv, this]⟩
        clear hv h1 h2
        cases hf : flatB 100000 p.bed
        · rw [hf] at HF HL
          clear hf
          go_wp2_with (go_at_call 67; refine (HF.out _ hB).mono ?_; rintro e w2 ⟨rfl, hb2⟩)
          have hB2 := hB.trans (hb2.mono hB.size)
          go_ret2
          exact ⟨hB2, .inl ⟨by
            cases h : p.ok
            · rfl
            · exact absurd (HL.out.1.1 h).1 (by simp), by rw [HL.out.2 (by simp)]; rfl⟩⟩
        · rw [hf] at HF HL
          clear hf
          go_wp2_with (go_at_call 67; refine (HF.out _ hB).mono ?_; rintro e w2 ⟨rfl, hb2⟩)
          have hB2 := hB.trans (hb2.mono hB.size)
          replace X := X.keep hb2
          clear hb2 x0 x1 x2 x3
          have x0 := X.cell 0
          have x1 := X.cell 1
          have x2 := X.cell 2
          have x3 := X.cell 3
          simp at x0 x1 x2 x3
          cases hf : flatB 100000 p.run
          · rw [hf] at HR HL
            clear hf
            go_wp2_with (go_at_call 67; refine (HR.out _ hB2).mono ?_; rintro e w3 ⟨rfl, hb3⟩)
            have hB3 := hB2.trans (hb3.mono hB2.size)
            go_ret2
            exact ⟨hB3, .inl ⟨by
              cases h : p.ok
              · rfl
              · exact absurd (HL.out.1.1 h).2 (by simp), by rw [HL.out.2 (by simp)]; rfl⟩⟩
          · rw [hf] at HR HL
            clear hf
            go_wp2_with (go_at_call 67; refine (HR.out _ hB2).mono ?_; rintro e w3 ⟨rfl, hb3⟩; have hB3 := hB2.trans (hb3.mono hB2.size); have X3 := X.keep hb3; have y0 := X3.cell 0; have y1 := X3.cell 1; have y2 := X3.cell 2; have y3 := X3.cell 3; simp at y0 y1 y2 y3)
            go_ret2
            exact ⟨hB3.alloc hB3.size _, .inr ⟨HL.out.1.2 (by simp), _, rfl, hB3.size, bk_last rfl⟩⟩
      · have q1 : ((p.bed.length : Int) != p.f.kinds.length) = false := by simp [h1]
        have q2 : ((p.run.length : Int) != p.f.kinds.length) = true := by simp; omega
        have HL : Hid (p.ok = false ∧ layE p = 1) := ⟨by simp [Gp.ok, Gp.good, h2], by simp [layE, hv, Gp.good, h2]⟩
        clear hv h1 h2
        go_wp2_with fail
        go_ret2
        exact ⟨hB, .inl ⟨HL.out.1, by rw [HL.out.2]; rfl⟩⟩
    · have q1 : ((p.bed.length : Int) != p.f.kinds.length) = true := by simp; omega
      have HL : Hid (p.ok = false ∧ layE p = 1) := ⟨by simp [Gp.ok, Gp.good, h1], by simp [layE, hv, Gp.good, h1]⟩
      clear hv h1
      go_wp2_with fail
      go_ret2
      exact ⟨hB, .inl ⟨HL.out.1, by rw [HL.out.2]; rfl⟩⟩

theorem lifted_any (l : Int) (w : World) : Calls Try.prog 84 #[.int .i64 l] w fun e w' => e = .returned (.bool (inB l 0 1000000000)) ∧ Below w.heap.size w w' := by
  have hB := Below.refl w.heap.size w
  go_enter Try.func84, Try.ntmps84
  go_wp2
  all_goals
    go_ret
    exact ⟨ret_bool (by simp [inB]; try omega), hB⟩

end Go.Proofs.Ythmngnfdfelkeaa
