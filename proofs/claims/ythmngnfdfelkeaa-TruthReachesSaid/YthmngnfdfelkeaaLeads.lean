/-
  What is proved: the contracts of leads, poor, total, with, still, fits.
-/
import Derived.Test.YthmngnfdfelkeaaOpen
namespace Go.Proofs.Ythmngnfdfelkeaa
open Go.RowKit
attribute [local go_sem] Fac.val pairV
attribute [local go_sem ↓] max_int min_int

/-- How many leads, or 200001. -/
def leadsF (s : Stn) : Nat → Int
  | 0 => 1
  | n + 1 => min (leadsF s n * ((s.pockets.getD n ((0, 0), 0)).2 + 1)) 200001

theorem leadsF_bound {s : Stn} (h : s.ok = true) : ∀ n, n ≤ s.pockets.length → 1 ≤ leadsF s n ∧ leadsF s n ≤ 200001
  | 0, _ => by simp [leadsF]
  | n + 1, hn => by
    obtain ⟨i1, i2⟩ := leadsF_bound h n (by omega)
    obtain ⟨_, _, _, _, _, _, _, _, hp⟩ := stn_ok h
    obtain ⟨_, p1, p2⟩ := hp _ (getD_mem ((0, 0), 0) (show n < s.pockets.length by omega))
    simp only [leadsF]
    generalize (s.pockets.getD n ((0, 0), 0)).2 = m at *
    have := Int.mul_le_mul (a := 1) (b := 1) (c := leadsF s n) (d := m + 1) i1 (by omega) (by omega) (by omega)
    omega

set_option maxHeartbeats 1000000 in
theorem leads_any (g : Nat) (s : Stn) (z : Loc) (m : Array Value) (w : World) (R : Bk w g 98 (s.cells z ++ m)) (hs : StAt w s z) (hok : s.ok = true) :
    Calls Try.prog 107 #[.pointer (some ⟨g, 0, none⟩)] w fun e w' => e = .returned (.int .i64 (leadsF s s.pockets.length)) ∧ Below w.heap.size w w' := by
  have n4 := hs.n4
  obtain ⟨x0, x1, x2, x3, x4, x5, x6, x7⟩ := stn_cell R
  have HB := Lib.hid (And.intro hs (And.intro hok R))
  clear hs hok x0 x1 x2 x3 x4 x5 x7 R
  go_enter Try.func107, Try.ntmps107
  go_wp2_with fail
  clear x6
  go_loopw [3, 12] (fun v i wr => ∃ k : Nat, k ≤ s.pockets.length ∧ i = .int .i64 k ∧ v = .int .i64 (leadsF s k) ∧ Below w.heap.size w wr) (fun _ i _ => s.pockets.length - (intOf i).toNat)
  case atStart => exact ⟨0, Nat.zero_le _, rfl, rfl, Below.refl _ _⟩
  case round =>
    obtain ⟨k, hk, rfl, rfl, hB⟩ := hrel
    by_cases hlt : k < s.pockets.length
    · have hkI : (k : Int) < s.pockets.length := by omega
      obtain ⟨b, off, hA, hb, hc⟩ := (HB.out.1.below hB).pockets.pk (by omega)
      obtain ⟨c0, c1, c2⟩ := hc k hlt
      obtain ⟨i1, i2⟩ := leadsF_bound HB.out.2.1 k (by omega)
      obtain ⟨_, _, _, _, _, _, _, _, hp⟩ := stn_ok HB.out.2.1
      obtain ⟨_, p1, p2⟩ := hp _ (getD_mem ((0, 0), 0) hlt)
      have HN := Lib.hid (show leadsF s (k + 1) = min (leadsF s k * ((s.pockets.getD k ((0, 0), 0)).2 + 1)) 200001 from rfl)
      clear hc hp
      generalize leadsF s k = v at *
      generalize s.pockets.getD k ((0, 0), 0) = p at *
      obtain ⟨⟨px, py⟩, pm⟩ := p
      simp only at c0 c1 c2 p1 p2 HN
      have hm : 0 ≤ v * (pm + 1) ∧ v * (pm + 1) ≤ 200001 * 256 := ⟨Int.mul_nonneg (by omega) (by omega), Int.mul_le_mul (by omega) (by omega) (by omega) (by omega)⟩
      have hz := hB.size
      rw [hA]
      clear hA
      go_wp2_with fail
      go_roundw
      case rel => exact ⟨k + 1, by omega, by go_num, by rw [HN.out], hB.alloc hz _⟩
      case measure => simp [intOf]; omega
    · have : k = s.pockets.length := by omega
      subst this
      go_wp2_with fail
      go_ret
      exact ⟨rfl, hB⟩

/-! ### The sum of numbers -/
def sumF (l : List Int) : Nat → Int
  | 0 => 0
  | n + 1 => sumF l n + l.getD n 0

theorem sumF_bound {l : List Int} {b : Int} (h : ∀ x ∈ l, -b ≤ x ∧ x ≤ b) : ∀ n, n ≤ l.length → -((n : Int) * b) ≤ sumF l n ∧ sumF l n ≤ (n : Int) * b
  | 0, _ => by simp [sumF]
  | n + 1, hn => by
    have ih := sumF_bound h n (by omega)
    have hx := h _ (getD_mem 0 (show n < l.length by omega))
    simp only [sumF]
    have e : ((n + 1 : Nat) : Int) * b = n * b + b := by rw [Int.natCast_add, Int.add_mul]; simp
    rw [e]
    omega

set_option maxHeartbeats 1000000 in
theorem total_any (A : Option Addr) (c : Nat) (l : List Int) (w : World) (hL : RowAt w A (intCells l)) (hn : l.length ≤ 1000000) (hb : ∀ x ∈ l, -1000000000 ≤ x ∧ x ≤ 1000000000) :
    Calls Try.prog 62 #[.slice A l.length c] w fun e w' => e = .returned (.int .i64 (sumF l l.length)) ∧ w = w' := by
  have HB := Lib.hid (And.intro hL hb)
  clear hL hb
  go_enter Try.func62, Try.ntmps62
  go_wp2
  go_loop [3, 8] (fun v i => ∃ k : Nat, k ≤ l.length ∧ i = .int .i64 k ∧ v = .int .i64 (sumF l k)) (fun _ i => l.length - (intOf i).toNat)
  case atStart => exact ⟨0, Nat.zero_le _, rfl, rfl⟩
  case round =>
    obtain ⟨k, hk, rfl, rfl⟩ := hrel
    by_cases hlt : k < l.length
    · have hkI : (k : Int) < l.length := by omega
      obtain ⟨b, off, hA, hb, hc⟩ := HB.out.1.intD (by omega)
      have c0 := hc k hlt
      obtain ⟨i1, i2⟩ := sumF_bound HB.out.2 k (by omega)
      obtain ⟨j1, j2⟩ := HB.out.2 _ (getD_mem 0 hlt)
      have HN := Lib.hid (show sumF l (k + 1) = sumF l k + l.getD k 0 from rfl)
      clear hc
      generalize sumF l k = v at *
      generalize l.getD k 0 = x at *
      rw [hA]
      clear hA
      go_wp2
      go_round
      case rel => exact ⟨k + 1, by omega, by go_num, by rw [HN.out]⟩
      case measure => simp [intOf]; omega
    · have : k = l.length := by omega
      subst this
      go_wp2
      go_ret
      exact ⟨rfl, rfl⟩

end Go.Proofs.Ythmngnfdfelkeaa
