/-
  What is proved: the contracts of the law package's small, and of truth.With and truth.Balanced.
  What is proved: the contract of truth.Balanced.
  What is proved: plain laws of moments for the law TruthAdds.
-/
import Derived.Test.YthmngnfdfelkeaaMg9
namespace Go.Proofs.Ythmngnfdfelkeaa
open Go.RowKit
attribute [local go_sem ↓] max_int min_int

def smallB (s : Stn) : Bool := decide (s.f.kinds.length ≤ 300) && decide (s.heights.length ≤ 300) && decide (s.compass.length ≤ 200) && decide (s.pockets.length ≤ 20)

set_option maxRecDepth 100000 in
set_option maxHeartbeats 2000000 in
theorem small_any (s : Stn) (z : Loc) (w : World) (hs : StAt w s z) :
    Calls Try.prog 16 #[s.val z] w fun e w' => e = .returned (.bool (smallB s)) ∧ Below w.heap.size w w' := by
  have n1 := hs.n1
  have n2 := hs.n2
  have n3 := hs.n3
  have n4 := hs.n4
  have hB : Below w.heap.size w (w.alloc (.cells (s.cells z) 28)) := (Below.refl _ _).alloc (Nat.le_refl _) _
  unfold Stn.val Stn.cells at *
  have HS : Hid (∀ b, ((s.f.kinds.length : Int) ≤ 300 ∧ (s.heights.length : Int) ≤ 300 ∧ (s.compass.length : Int) ≤ 200 ∧ (s.pockets.length : Int) ≤ 20 ↔ b = true) → smallB s = b) := fun b h => by
    unfold smallB
    cases b <;> simp at h ⊢ <;> omega
  clear hs
  generalize s.f.kinds.length = a1 at *
  generalize s.heights.length = a2 at *
  generalize s.compass.length = a3 at *
  generalize s.pockets.length = a4 at *
  go_enter Try.func16, Try.ntmps16
  go_wp2
  all_goals
    go_ret
    exact ⟨ret_bool (HS.out _ (by simp; omega)).symm, hB⟩

/-- What With and Balanced give. -/
def withR (s : Stn) (l : List Int) : (Int × Int) × Int :=
  if s.ok then if leadB s l then ((withX s l l.length, withY s l l.length), 0) else ((0, 0), 62) else ((0, 0), 60)
def balR (s : Stn) (l : List Int) : Bool × Int :=
  if s.ok then if leadB s l then (stillB s l, 0) else (false, 62) else (false, 60)

set_option maxRecDepth 100000 in
set_option maxHeartbeats 2000000 in
theorem withT_any (s : Stn) (z : Loc) (A : Option Addr) (c : Nat) (l : List Int) (w : World) (hs : StAt w s z) (hl : RowAt w A (intCells l)) (hn : l.length ≤ 9223372036854775807) :
    Calls Try.prog 43 #[s.val z, .slice A l.length c] w fun e w' => e = .returned (pointV (withR s l)) ∧ Below w.heap.size w w' := by
  have HO : Hid (∀ W, StAt W s z → Calls Try.prog 71 #[.agg (s.cells z)] W (OpenPost s z W)) := fun W h => open_any s z W h
  unfold Stn.cells at HO
  unfold Stn.val Stn.cells
  go_enter Try.func43, Try.ntmps43
  go_wp2_with fail
  refine (HO.out _ ((hs.alloc _).alloc _)).mono ?_
  rintro e w1 ⟨hb1, h⟩
  have hB : Below w.heap.size w w1 := (((Below.refl _ _).alloc (Nat.le_refl _) _).alloc (by simp) _).trans (hb1.mono (by simp; omega))
  have E : Bk w1 (w.heap.size + 1) 43 #[.int .i64 0, .int .i64 0] := (bk_last (by simp)).keep hb1
  have e0 := E.cell 0
  have e1 := E.cell 1
  have e2 := E.fz 0
  have e3 := E.fz 1
  simp at e0 e1
  rcases h with ⟨h1, rfl⟩ | ⟨h1, g, rfl, hg, R⟩
  · have HR := Lib.hid (show withR s l = ((0, 0), 60) by simp [withR, h1])
    go_wp2_with fail
    refine bodyPost_ret (v := pointV ((0, 0), 60)) (by simp [pointV, results, Try.results43, go_sem, e0, e1]) rfl ⟨by first | (rw [HR.out]; done) | (rw [HR.out]; rfl), ?_⟩
    repeat (first | exact hB | refine Below.setCell ?_ (by simp <;> omega) _ | refine Below.alloc ?_ (by simp <;> omega) _ | refine below_drewN ?_ _)
  · cases hf : leadB s l
    · have HR := Lib.hid (show withR s l = ((0, 0), 62) by simp [withR, h1, hf])
      have HF := Lib.hid (fits_any g A c s z _ l w1 R (hs.below hB) (hl.below hB) hn)
      rw [hf] at HF
      clear R h1 hf
      go_wp2_with (go_at_call 93; refine (HF.out).mono ?_; rintro e w2 ⟨rfl, rfl⟩)
      refine bodyPost_ret (v := pointV ((0, 0), 62)) (by simp [pointV, results, Try.results43, go_sem, e0, e1]) rfl ⟨by first | (rw [HR.out]; done) | (rw [HR.out]; rfl), ?_⟩
      repeat (first | exact hB | refine Below.setCell ?_ (by simp <;> omega) _ | refine Below.alloc ?_ (by simp <;> omega) _ | refine below_drewN ?_ _)
    · have HR := Lib.hid (show withR s l = ((withX s l l.length, withY s l l.length), 0) by simp [withR, h1, hf])
      have HF := Lib.hid (fits_any g A c s z _ l w1 R (hs.below hB) (hl.below hB) hn)
      have HW := Lib.hid (with_any g A c s z l w1 R (hs.below hB) h1 (hl.below hB) ((leadB_iff s l).1 hf))
      rw [hf] at HF
      have hEl := E.lt
      clear R h1 hf
      go_wp2_with (first | (go_at_call 93; refine (HF.out).mono ?_; rintro e w2 ⟨rfl, rfl⟩) | (go_at_call 94; refine (HW.out).mono ?_; rintro e w2 ⟨rfl, hb2⟩; have E2 := E.keep hb2; have p0 := E2.cell 0; have p1 := E2.cell 1; have p2 := E2.fz 0; have p3 := E2.fz 1; have hEl2 := E2.lt; simp at p0 p1))
      refine bodyPost_ret (v := pointV ((withX s l l.length, withY s l l.length), 0)) (by simp [pointV, results, Try.results43, go_sem, p0, p1]) rfl ⟨by first | (rw [HR.out]; done) | (rw [HR.out]; rfl), ?_⟩
      have hB2 := hB.trans (hb2.mono hB.size)
      repeat (first | exact hB2 | refine Below.setCell ?_ (by simp <;> omega) _ | refine Below.alloc ?_ (by simp <;> omega) _ | refine below_drewN ?_ _)

end Go.Proofs.Ythmngnfdfelkeaa
namespace Go.Proofs.Ythmngnfdfelkeaa
open Go.RowKit
attribute [local go_sem ↓] max_int min_int

theorem withR_bal (s : Stn) (l : List Int) : ((withR s l).2 = (balR s l).2) ∧ ((balR s l).2 = 0 → 0 ≤ s.tol ∧ s.tol ≤ 1000000000000 ∧ (balR s l).1 = flatB s.tol [(withR s l).1.1, (withR s l).1.2]) ∧ ((balR s l).2 ≠ 0 → (balR s l).1 = false) := by
  unfold withR balR
  by_cases h : s.ok = true
  · simp only [h, if_true]
    obtain ⟨_, _, _, _, _, t0, t1, _⟩ := stn_ok h
    by_cases h2 : leadB s l = true
    · simp [h2, stillB, flatB, t0, t1]
    · simp [h2]
  · simp [h]

theorem bal_any (s : Stn) (z : Loc) (A : Option Addr) (c : Nat) (l : List Int) (w : World) (hs : StAt w s z) (hl : RowAt w A (intCells l)) (hn : l.length ≤ 9223372036854775807) :
    Calls Try.prog 33 #[s.val z, .slice A l.length c] w fun e w' => e = .returned (.tuple #[.bool (balR s l).1, .int .i64 (balR s l).2]) ∧ Below w.heap.size w w' := by
  have HW : Hid (∀ W, Below w.heap.size w W → Calls Try.prog 43 #[.agg (s.cells z), .slice A l.length c] W fun e w' => e = .returned (pointV (withR s l)) ∧ Below W.heap.size W w') := fun W h => withT_any s z A c l W (hs.below h) (hl.below h) hn
  have HX := Lib.hid (withR_bal s l)
  have hB : Below w.heap.size w (w.alloc (.cells (s.cells z) 28)) := (Below.refl _ _).alloc (Nat.le_refl _) _
  have X : Bk (w.alloc (.cells (s.cells z) 28)) w.heap.size 28 (s.cells z) := bk_last rfl
  clear hs hl hn
  unfold pointV at HW
  generalize withR s l = q at *
  generalize balR s l = r at *
  obtain ⟨⟨x, y⟩, e0⟩ := q
  obtain ⟨b, e1⟩ := r
  unfold Stn.cells at *
  unfold Stn.val Stn.cells
  simp only at HX HW ⊢
  obtain rfl : e0 = e1 := HX.out.1
  go_enter Try.func33, Try.ntmps33
  go_upto_region 1 with fail
  generalize w.alloc (.cells _ 28) = V at *
  have x0 := X.cell 0
  have x1 := X.cell 1
  have x2 := X.cell 2
  have x3 := X.cell 3
  have x4 := X.cell 4
  have x5 := X.cell 5
  have x6 := X.cell 6
  have x7 := X.cell 7
  simp at x0 x1 x2 x3 x4 x5 x6 x7
  go_wp2_with fail
  refine (HW.out _ hB).mono ?_
  rintro e w2 ⟨rfl, hb2⟩
  have hB2 := hB.trans (hb2.mono hB.size)
  have X2 := X.keep hb2
  have y7 := X2.cell 7
  have yl := X2.lt
  simp at y7
  clear x0 x1 x2 x3 x4 x5 x6 x7
  by_cases he : e0 = 0
  · subst he
    obtain ⟨t0, t1, hb⟩ := HX.out.2.1 rfl
    try simp only at hb
    have hrow : RowAt ((w2.alloc (.cells #[.int .i64 x, .int .i64 y] 43)).alloc (.cells #[.int .i64 x, .int .i64 y] 3)) (some ⟨w2.heap.size + 1, 0, none⟩) (intCells [x, y]) := row_two (w2.alloc (.cells #[.int .i64 x, .int .i64 y] 43)) x y 3 (w2.heap.size + 1) (by simp)
    have HF := Lib.hid (flat_any (some ⟨w2.heap.size + 1, 0, none⟩) 2 s.tol [x, y] _ hrow (by simp) t0 (by omega))
    clear HX hrow
    rw [← hb] at HF
    clear hb
    go_wp2_with (go_at_call 67; refine (HF.out).mono ?_; rintro e w3 ⟨rfl, hb3⟩)
    go_ret2
    exact ⟨rfl, ((hB2.alloc hB2.size _).alloc (by have := hB2.size; simp; omega) _).trans (hb3.mono (by have := hB2.size; simp; omega))⟩
  · have hb := HX.out.2.2 he
    try simp only at hb
    subst hb
    have hq : (e0 == 0) = false := by simpa using he
    clear HX
    go_wp2_with fail
    go_ret2
    exact ⟨rfl, hB2.alloc hB2.size _⟩

end Go.Proofs.Ythmngnfdfelkeaa
namespace Go.Proofs.Ythmngnfdfelkeaa
open Go.RowKit

/-- A stone with other heights. -/
def withH (s : Stn) (l : List Int) : Stn := { s with heights := l }
def zipH (a b : List Int) (k : Nat) : List Int := (List.range k).map fun i => a.getD i 0 + b.getD i 0
theorem zipH_len (a b : List Int) (k : Nat) : (zipH a b k).length = k := by simp [zipH]
theorem zipH_succ (a b : List Int) (k : Nat) : zipH a b (k + 1) = zipH a b k ++ [a.getD k 0 + b.getD k 0] := by
  unfold zipH
  rw [List.range_succ, List.map_append]
  rfl
theorem zipH_get (a b : List Int) {k i : Nat} (h : i < k) : (zipH a b k).getD i 0 = a.getD i 0 + b.getD i 0 := by
  rw [List.getD_eq_getElem?_getD]
  simp [zipH, h]
theorem mul_split (c a x y b : Int) : c * (a * (x + y) * b) = c * (a * x * b) + c * (a * y * b) := by
  rw [Int.mul_add, Int.add_mul, Int.mul_add]

theorem mom_add (s : Stn) (m : List Int) (n : Nat) : ∀ k, k ≤ n → momX (withH s (zipH s.heights m n)) k = momX s k + momX (withH s m) k ∧ momY (withH s (zipH s.heights m n)) k = momY s k + momY (withH s m) k
  | 0, _ => by simp [momX, momY]
  | k + 1, hk => by
    obtain ⟨h1, h2⟩ := mom_add s m n k (by omega)
    simp only [momX, momY, massV]
    rw [h1, h2]
    simp only [withH]
    rw [zipH_get _ _ (show k < n by omega), mul_split, mul_split]
    omega

/-- The sum of the first coordinates of a compass; of the second ones. -/
def sumPX (l : List (Int × Int)) : Nat → Int
  | 0 => 0
  | k + 1 => sumPX l k + (l.getD k (0, 0)).1
def sumPY (l : List (Int × Int)) : Nat → Int
  | 0 => 0
  | k + 1 => sumPY l k + (l.getD k (0, 0)).2
theorem sumP_bound {l : List (Int × Int)} (h : ∀ p ∈ l, (-1000 ≤ p.1 ∧ p.1 ≤ 1000) ∧ -1000 ≤ p.2 ∧ p.2 ≤ 1000) : ∀ k, k ≤ l.length → (-((k : Int) * 1000) ≤ sumPX l k ∧ sumPX l k ≤ (k : Int) * 1000) ∧ -((k : Int) * 1000) ≤ sumPY l k ∧ sumPY l k ≤ (k : Int) * 1000
  | 0, _ => by simp [sumPX, sumPY]
  | k + 1, hk => by
    have ih := sumP_bound h k (by omega)
    have h2 := h _ (getD_mem (0, 0) (show k < l.length by omega))
    simp only [sumPX, sumPY]
    omega

def flatK (s : Stn) (h : Int) (r : Nat) : Int := (2 * (s.f.eye + (r : Int)) + 1) * h * (s.f.eye + (r : Int) + 1)
theorem mom_flat (s : Stn) (h : Int) (n S : Nat) (hS : s.f.sec = S) (hS0 : 0 < S) (hx : sumPX s.compass S = 0) (hy : sumPY s.compass S = 0) :
    ∀ k, k ≤ n → momX (withH s (List.replicate n h)) k = sumPX s.compass (k % S) * flatK s h (k / S) ∧ momY (withH s (List.replicate n h)) k = sumPY s.compass (k % S) * flatK s h (k / S)
  | 0, _ => by simp [momX, momY, sumPX, sumPY]
  | k + 1, hk => by
    obtain ⟨h1, h2⟩ := mom_flat s h n S hS hS0 hx hy k (by omega)
    simp only [momX, momY, massV]
    rw [h1, h2]
    simp only [withH, hS, Int.toNat_natCast]
    have hg : (List.replicate n h).getD k 0 = h := by
      rw [List.getD_eq_getElem?_getD, List.getElem?_replicate, if_pos (by omega)]; rfl
    rw [hg]
    have hd : (k : Int) / (S : Int) = ((k / S : Nat) : Int) := (Int.natCast_ediv k S).symm
    rw [hd]
    have e : (2 * (s.f.eye + ((k / S : Nat) : Int)) + 1) * h * (s.f.eye + ((k / S : Nat) : Int) + 1) = flatK s h (k / S) := rfl
    rw [e, ← Int.add_mul, ← Int.add_mul]
    have hm := Nat.mod_lt k hS0
    have hdm := Nat.div_add_mod k S
    have ex : sumPX s.compass (k % S) + (s.compass.getD (k % S) (0, 0)).1 = sumPX s.compass (k % S + 1) := rfl
    have ey : sumPY s.compass (k % S) + (s.compass.getD (k % S) (0, 0)).2 = sumPY s.compass (k % S + 1) := rfl
    rw [ex, ey]
    by_cases hq : k % S + 1 = S
    · have e0 : k + 1 = S * (k / S + 1) := by
        rw [Nat.mul_add, Nat.mul_one]
        omega
      have e1 : (k + 1) % S = 0 := by rw [e0, Nat.mul_mod_right]
      rw [e1, hq, hx, hy]
      simp [sumPX, sumPY]
    · have hlt : k % S + 1 < S := Nat.lt_of_le_of_ne hm hq
      have e0 : k + 1 = S * (k / S) + (k % S + 1) := by omega
      have e1 : (k + 1) / S = k / S ∧ (k + 1) % S = k % S + 1 := by
        generalize k / S = u at *
        generalize k % S = v at *
        constructor
        · rw [e0, Nat.mul_add_div hS0, Nat.div_eq_of_lt hlt, Nat.add_zero]
        · rw [e0, Nat.mul_add_mod, Nat.mod_eq_of_lt hlt]
      rw [e1.1, e1.2]
      exact ⟨rfl, rfl⟩

theorem withH_ok {s : Stn} (h : s.ok = true) {l : List Int} (hl : l.length = s.f.kinds.length) (hb : flatB 100000 l = true) : (withH s l).ok = true := by
  simp only [Stn.ok, Bool.and_eq_true] at h ⊢
  obtain ⟨⟨⟨⟨⟨⟨⟨h1, _⟩, _⟩, h4⟩, h5⟩, h6⟩, h7⟩, h8⟩ := h
  exact ⟨⟨⟨⟨⟨⟨⟨h1, by simpa [withH] using hl⟩, hb⟩, h4⟩, h5⟩, h6⟩, h7⟩, h8⟩

theorem flat_zero {s : Stn} (h : s.ok = true) {x : Int} (hx : sumPX s.compass s.compass.length = 0) (hy : sumPY s.compass s.compass.length = 0) :
    momX (withH s (List.replicate s.f.kinds.length x)) s.f.kinds.length = 0 ∧ momY (withH s (List.replicate s.f.kinds.length x)) s.f.kinds.length = 0 := by
  obtain ⟨h1, _, _, h4, _⟩ := stn_ok h
  obtain ⟨_, _, k3, _, k5, _, k7, _⟩ := fac_ok h1
  obtain ⟨S, hS⟩ : ∃ S : Nat, s.f.sec = S := ⟨s.f.sec.toNat, by omega⟩
  obtain ⟨R, hR⟩ : ∃ R : Nat, s.f.rings = R := ⟨s.f.rings.toNat, by omega⟩
  have hn : s.f.kinds.length = S * R := by
    have : (s.f.kinds.length : Int) = ((S * R : Nat) : Int) := by rw [k7, hS, hR]; simp [Int.mul_comm]
    omega
  have hc : s.compass.length = S := by omega
  rw [hc] at hx hy
  obtain ⟨q1, q2⟩ := mom_flat s x s.f.kinds.length S hS (by omega) hx hy s.f.kinds.length (Nat.le_refl _)
  rw [q1, q2, hn, Nat.mul_mod_right]
  simp [sumPX, sumPY]

end Go.Proofs.Ythmngnfdfelkeaa
