/-
  Plain laws of leads: all of them in their order.
-/
namespace Go.Proofs.Ythmngnfdfelkeaa

/-- How many leads: the product of what each pocket holds and 1. -/
def prodM : List Nat → Nat
  | [] => 1
  | m :: ms => (m + 1) * prodM ms
theorem prodM_pos : ∀ ms, 1 ≤ prodM ms
  | [] => Nat.le_refl _
  | m :: ms => Nat.mul_le_mul (Nat.le_add_left 1 m) (prodM_pos ms)

/-- The lead number k. -/
def leadAt : List Nat → Nat → List Nat
  | [], _ => []
  | _ :: ms, k => k / prodM ms :: leadAt ms (k % prodM ms)
theorem leadAt_len : ∀ ms k, (leadAt ms k).length = ms.length
  | [], _ => rfl
  | _ :: ms, k => by simp [leadAt, leadAt_len ms]
theorem leadAt_zero : ∀ ms, leadAt ms 0 = List.replicate ms.length 0
  | [] => rfl
  | _ :: ms => by simp [leadAt, leadAt_zero ms, List.replicate_succ]

/-- Its number. -/
def rankL : List Nat → List Nat → Nat
  | _ :: ms, d :: l => d * prodM ms + rankL ms l
  | _, _ => 0

/-- Each number is at most what its pocket holds. -/
def inM : List Nat → List Nat → Prop
  | [], [] => True
  | m :: ms, d :: l => d ≤ m ∧ inM ms l
  | _, _ => False
theorem inM_len : ∀ {ms l}, inM ms l → l.length = ms.length
  | [], [], _ => rfl
  | _ :: _, _ :: _, h => by simp [inM_len h.2]
theorem rank_lt : ∀ {ms l}, inM ms l → rankL ms l < prodM ms
  | [], [], _ => by simp [rankL, prodM]
  | m :: ms, d :: l, h => by
    have := rank_lt h.2
    simp only [rankL, prodM]
    have e : (m + 1) * prodM ms = m * prodM ms + prodM ms := by rw [Nat.add_mul, Nat.one_mul]
    have := Nat.mul_le_mul_right (prodM ms) h.1
    omega
theorem leadAt_rank : ∀ {ms l}, inM ms l → leadAt ms (rankL ms l) = l
  | [], [], _ => rfl
  | m :: ms, d :: l, h => by
    have h1 := rank_lt h.2
    have hp := prodM_pos ms
    simp only [rankL, leadAt]
    rw [Nat.mul_comm, Nat.mul_add_div (by omega), Nat.div_eq_of_lt h1, Nat.mul_add_mod, Nat.mod_eq_of_lt h1, leadAt_rank h.2]
    simp
theorem leadAt_in : ∀ {ms : List Nat} {k : Nat}, k < prodM ms → inM ms (leadAt ms k)
  | [], _, _ => trivial
  | m :: ms, k, h => by
    have hp := prodM_pos ms
    simp only [prodM] at h
    refine ⟨?_, leadAt_in (Nat.mod_lt _ (by omega))⟩
    have : k / prodM ms < m + 1 := Nat.div_lt_of_lt_mul (by rwa [Nat.mul_comm])
    omega

/-- The lead behind one: none behind the last. -/
def nextL : List Nat → List Nat → Option (List Nat)
  | m :: ms, d :: l => match nextL ms l with
    | some l' => some (d :: l')
    | none => if d < m then some ((d + 1) :: List.replicate l.length 0) else none
  | _, _ => none

theorem nextL_at : ∀ (ms : List Nat) (k : Nat), k < prodM ms → nextL ms (leadAt ms k) = if k + 1 < prodM ms then some (leadAt ms (k + 1)) else none
  | [], k, h => by
    have : ¬ k + 1 < prodM [] := by simp only [prodM] at h ⊢; omega
    rw [if_neg this]; rfl
  | m :: ms, k, h => by
    have hp := prodM_pos ms
    have hr := Nat.mod_lt k (show prodM ms > 0 by omega)
    have ih := nextL_at ms (k % prodM ms) hr
    have hk := Nat.div_add_mod k (prodM ms)
    rw [show prodM (m :: ms) = (m + 1) * prodM ms from rfl] at h ⊢
    simp only [leadAt, nextL, ih]
    have e : (m + 1) * prodM ms = prodM ms * m + prodM ms := by rw [Nat.add_mul, Nat.one_mul, Nat.mul_comm]
    by_cases h1 : k % prodM ms + 1 < prodM ms
    · rw [if_pos h1]
      have hq : (k + 1) / prodM ms = k / prodM ms ∧ (k + 1) % prodM ms = k % prodM ms + 1 := by
        have : k + 1 = prodM ms * (k / prodM ms) + (k % prodM ms + 1) := by omega
        rw [this, Nat.mul_add_div (by omega), Nat.div_eq_of_lt h1, Nat.mul_add_mod, Nat.mod_eq_of_lt h1]
        simp
      have hd : k / prodM ms ≤ m := by
        have : k / prodM ms < m + 1 := Nat.div_lt_of_lt_mul (by rwa [Nat.mul_comm])
        omega
      have hk2 : k + 1 < (m + 1) * prodM ms := by
        have := Nat.mul_le_mul_left (prodM ms) hd
        omega
      rw [if_pos hk2, hq.1, hq.2]
    · rw [if_neg h1]
      have h2 : k % prodM ms + 1 = prodM ms := by omega
      have hq : (k + 1) / prodM ms = k / prodM ms + 1 ∧ (k + 1) % prodM ms = 0 := by
        have : k + 1 = prodM ms * (k / prodM ms + 1) := by rw [Nat.mul_add]; omega
        rw [this, Nat.mul_div_cancel_left _ (by omega), Nat.mul_mod_right]
        simp
      by_cases h3 : k / prodM ms < m
      · have hk2 : k + 1 < (m + 1) * prodM ms := by
          have := Nat.mul_le_mul_left (prodM ms) (show k / prodM ms + 1 ≤ m from h3)
          rw [Nat.mul_add] at this
          omega
        rw [if_pos h3, if_pos hk2, hq.1, hq.2, leadAt_zero, leadAt_len]
      · have hd : k / prodM ms = m := by
          have : k / prodM ms < m + 1 := Nat.div_lt_of_lt_mul (by rwa [Nat.mul_comm])
          omega
        have hk2 : ¬ k + 1 < (m + 1) * prodM ms := by rw [hd] at hk; omega
        simp only [hd, Nat.lt_irrefl, if_false, hk2]

theorem nextL_last : ∀ (ms l : List Nat), l.length = ms.length → (∀ t, t < l.length → l.getD t 0 = ms.getD t 0) → nextL ms l = none
  | [], _, _, _ => rfl
  | m :: ms, [], hl, _ => rfl
  | m :: ms, d :: l, hl, h => by
    have h0 := h 0 (by simp)
    simp at h0
    have := nextL_last ms l (by simpa using hl) (fun t ht => by have := h (t + 1) (by simpa using ht); simpa using this)
    simp [nextL, this, h0]

/-- The numbers up to i as they are, then zeros. -/
theorem nextL_scan : ∀ (ms l : List Nat) (i : Nat), l.length = ms.length → i < l.length → (∀ t, i < t → t < l.length → l.getD t 0 = ms.getD t 0) → l.getD i 0 < ms.getD i 0 →
    nextL ms l = some (l.take i ++ (l.getD i 0 + 1) :: List.replicate (l.length - i - 1) 0)
  | m :: ms, d :: l, 0, hl, _, h, hd => by
    have hn : nextL ms l = none := nextL_last ms l (by simpa using hl) (fun t ht => by have := h (t + 1) (by omega) (by simpa using ht); simpa using this)
    simp at hd
    simp [nextL, hn, hd]
  | m :: ms, d :: l, i + 1, hl, hi, h, hd => by
    have := nextL_scan ms l i (by simpa using hl) (by simpa using hi) (fun t ht ht2 => by
      have := h (t + 1) (by omega) (by simpa using ht2)
      simpa using this) (by simpa using hd)
    simp [nextL, this]
  | [], l, i, hl, hi, _, _ => by simp at hl; subst hl; simp at hi
  | m :: ms, [], i, hl, hi, _, _ => by simp at hi

end Go.Proofs.Ythmngnfdfelkeaa
