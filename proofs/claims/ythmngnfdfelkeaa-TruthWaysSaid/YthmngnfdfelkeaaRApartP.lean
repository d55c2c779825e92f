/-
  What is proved: plain laws of the order in which the reference's Apart goes through the ways.
-/
import Derived.Test.YthmngnfdfelkeaaWaysP
namespace Go.Proofs.Ythmngnfdfelkeaa
open Go.RowKit

/-- One x of one size. -/
structure RowX (k j : Nat) (x : Int) (r : Nat) : Prop where
  k200 : k < 200
  jM : j < 2 * min (k + 1) 100 + 1
  xe : x = (j : Int) - ((min (k + 1) 100 : Nat) : Int)
  re : k + 1 = r + x.natAbs

theorem RowX.pre {k j r : Nat} {x : Int} (h : RowX k j x r) (i : Nat) : preS k ++ preX (k + 1) j ++ (rowW (k + 1) x).take i <+: wayL := by
  have := pre_way h.k200 h.jM i
  rw [← h.xe] at this
  exact this

theorem RowX.next {k j r : Nat} {x : Int} (h : RowX k j x r) : preS k ++ preX (k + 1) (j + 1) = preS k ++ preX (k + 1) j ++ rowW (k + 1) x := by
  rw [preX_succ, ← h.xe, List.append_assoc]

theorem RowX.row0 {k j : Nat} {x : Int} (h : RowX k j x 0) : ∃ p, rowW (k + 1) x = [⟨(x, 0), p⟩] := by
  obtain ⟨h1, h2, h3, h4⟩ := h
  refine ⟨by simp only [WayOk]; omega, ?_⟩
  unfold rowW
  rw [dif_pos (by omega), if_pos (by omega)]

theorem RowX.row1 {k j r : Nat} {x : Int} (h : RowX k j x r) (h0 : 0 < r) (h1 : r ≤ 100) : ∃ p q, rowW (k + 1) x = [⟨(x, -(r : Int)), p⟩, ⟨(x, (r : Int)), q⟩] := by
  obtain ⟨h2, h3, h4, h5⟩ := h
  refine ⟨by simp only [WayOk]; omega, by simp only [WayOk]; omega, ?_⟩
  unfold rowW
  have e : k + 1 - x.natAbs = r := by omega
  rw [dif_pos (by omega), if_neg (by omega)]
  simp only [e]

theorem RowX.skip {k j r : Nat} {x : Int} (h : RowX k j x r) (h1 : 100 < r) : rowW (k + 1) x = [] := by
  obtain ⟨h2, h3, h4, h5⟩ := h
  unfold rowW
  rw [dif_neg (by omega)]

variable {s : Stn} {k j r : Nat} {x : Int}
theorem row_first (h : RowX k j x r) (hall : ∀ y ∈ preS k ++ preX (k + 1) j, farB s y = false) (h1 : r ≤ 100) (p : WayOk (x, -(r : Int))) (hf : farB s ⟨(x, -(r : Int)), p⟩ = true) :
    wayL.find? (farB s) = some ⟨(x, -(r : Int)), p⟩ := by
  have hp := h.pre 1
  rcases Nat.eq_zero_or_pos r with h0 | h0
  · subst h0
    obtain ⟨q, e⟩ := h.row0
    rw [e] at hp
    exact find_pre hp hall hf
  · obtain ⟨q1, q2, e⟩ := h.row1 h0 h1
    rw [e] at hp
    exact find_pre hp hall hf

theorem row_second (h : RowX k j x r) (hall : ∀ y ∈ preS k ++ preX (k + 1) j, farB s y = false) (h1 : r ≤ 100) (p : WayOk (x, -(r : Int))) (q : WayOk (x, (r : Int))) (hg : farB s ⟨(x, -(r : Int)), p⟩ = false) (hf : farB s ⟨(x, (r : Int)), q⟩ = true) :
    wayL.find? (farB s) = some ⟨(x, (r : Int)), q⟩ := by
  have hp := h.pre 2
  rcases Nat.eq_zero_or_pos r with h0 | h0
  · subst h0
    have hf' : farB s ⟨(x, -((0 : Nat) : Int)), p⟩ = true := hf
    rw [hg] at hf'
    cases hf'
  · obtain ⟨q1, q2, e⟩ := h.row1 h0 h1
    rw [e] at hp
    refine find_pre (pre := preS k ++ preX (k + 1) j ++ [⟨(x, -(r : Int)), p⟩]) ?_ ?_ hf
    · simpa using hp
    · intro y hy
      rcases List.mem_append.1 hy with h | h
      · exact hall y h
      · rw [List.mem_singleton] at h
        subst h
        exact hg

theorem row_none (h : RowX k j x r) (hall : ∀ y ∈ preS k ++ preX (k + 1) j, farB s y = false) (h1 : r ≤ 100) (p : WayOk (x, -(r : Int))) (q : WayOk (x, (r : Int))) (hg : farB s ⟨(x, -(r : Int)), p⟩ = false) (hf : farB s ⟨(x, (r : Int)), q⟩ = false) :
    ∀ y ∈ preS k ++ preX (k + 1) (j + 1), farB s y = false := by
  rw [h.next]
  intro y hy
  rcases List.mem_append.1 hy with h' | h'
  · exact hall y h'
  · rcases Nat.eq_zero_or_pos r with h0 | h0
    · subst h0
      obtain ⟨q, e⟩ := h.row0
      rw [e, List.mem_singleton] at h'
      subst h'
      exact hf
    · obtain ⟨q1, q2, e⟩ := h.row1 h0 h1
      rw [e] at h'
      rcases List.mem_cons.1 h' with rfl | h'
      · exact hg
      · rw [List.mem_singleton] at h'
        subst h'
        exact hf

theorem row_skip (h : RowX k j x r) (hall : ∀ y ∈ preS k ++ preX (k + 1) j, farB s y = false) (h1 : 100 < r) : ∀ y ∈ preS k ++ preX (k + 1) (j + 1), farB s y = false := by
  rw [h.next, h.skip h1]
  simpa using hall

end Go.Proofs.Ythmngnfdfelkeaa
