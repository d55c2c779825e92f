/-
  What is proved: the contracts of slices.Compact (on two numbers) and of the iterator over all ways.
-/
import Derived.Test.YthmngnfdfelkeaaReach2
import Derived.Test.YthmngnfdfelkeaaIter
import Derived.Lib.SliceRun
namespace Go.Proofs.Ythmngnfdfelkeaa
open Go.RowKit Go.Shelf
attribute [local go_sem] Oper.semAt_some
attribute [local go_sem ↓] max_int min_int

set_option maxRecDepth 100000 in
set_option maxHeartbeats 1000000 in
theorem compact_ne (B : Nat) (a b : Int) (w : World) (h : Bk w B 3 #[.int .i64 a, .int .i64 b]) (hne : a ≠ b) :
    Calls Try.prog 119 #[.slice (some ⟨B, 0, none⟩) 2 2] w fun e w' => e = .returned (.slice (some ⟨B, 0, none⟩) 2 2) ∧ ∃ n, w' = w.drewN n := by
  have c0 := h.cell 0
  have c1 := h.cell 1
  simp at c0 c1
  have hn : (b == a) = false := by simpa using fun e => hne e.symm
  go_enter Try.func119, Try.ntmps119
  go_wp2
  go_loopw [3] (fun i wr => ∃ k : Nat, 1 ≤ k ∧ k ≤ 2 ∧ i = .int .i64 k ∧ ∃ n, wr = w.drewN n) (fun i _ => 2 - (intOf i).toNat)
  case atStart => exact ⟨1, by omega, by omega, rfl, 0, rfl⟩
  case round =>
    obtain ⟨k, hk1, hk2, rfl, n, rfl⟩ := hrel
    rcases Nat.lt_or_ge k 2 with h2 | h2
    · obtain rfl : k = 1 := by omega
      go_wp2
      go_quiet (fail)
      go_wp2
      go_roundw
      case rel => exact ⟨2, by omega, by omega, rfl, _, rfl⟩
      case measure => simp [intOf]
    · obtain rfl : k = 2 := by omega
      go_wp2
      go_ret
      exact ⟨rfl, n, rfl⟩

theorem zero3 (w : World) : (zeroValue 3).run Try.prog w = .ok (.int .i64 0) w := by kernel_rfl

set_option maxRecDepth 100000 in
set_option maxHeartbeats 1000000 in
theorem compact_eq (B : Nat) (w : World) (h : Bk w B 3 #[.int .i64 0, .int .i64 0]) :
    Calls Try.prog 119 #[.slice (some ⟨B, 0, none⟩) 2 2] w fun e w' => e = .returned (.slice (some ⟨B, 0, none⟩) 1 2) ∧ w.grownBy w' (some B) ∧ Bk w' B 3 #[.int .i64 0, .int .i64 0] := by
  have c0 := h.cell 0
  have c1 := h.cell 1
  have f0 := h.fz 0
  have f1 := h.fz 1
  simp at c0 c1
  go_enter Try.func119, Try.ntmps119
  go_wp2
  go_loopw [3] (fun i wr => i = .int .i64 1 ∧ wr = w) (fun i _ => 0)
  case atStart => exact ⟨rfl, rfl⟩
  case round =>
    obtain ⟨rfl, rfl⟩ := hrel
    have hcl : ∀ n, (Builtin.clear_ #[22] 0 #[.slice (some ⟨B, 1, none⟩) 1 1]).run Try.prog (wr.drewN n) = .ok (.tuple #[]) ((wr.drewN n).setCell ⟨B, 1, none⟩ (.int .i64 0)) := fun n => by
      have i1 : ∀ j, j < 1 → ((wr.drewN n).cell? ⟨B, 1 + j, none⟩).isSome = true := fun j hj => by
        obtain rfl : j = 0 := by omega
        rw [show (wr.drewN n).cell? ⟨B, 1 + 0, none⟩ = some (.int .i64 0) from c1]
        rfl
      have i2 : ∀ j, j < 1 → (wr.drewN n).frozen? ⟨B, 1 + j, none⟩ = false := fun j hj => by
        obtain rfl : j = 0 := by omega
        exact f1
      exact Lib.run_clear_slice (wr.drewN n) 22 3 0 (.int .i64 0) Try.underlying22 zero3 rfl rfl B 1 1 1 (by omega) i1 i2
    go_wp2
    go_quiet (fail)
    go_wp2
    go_loopw [3, 5] (fun k i wr' => k = .int .i64 1 ∧ i = .int .i64 1 ∧ wr' = wr.drewN nq) (fun _ i _ => 0)
    case atStart => exact ⟨rfl, rfl, rfl⟩
    case round =>
      obtain ⟨rfl, rfl, rfl⟩ := hrel
      go_wp2
      go_ret
      refine ⟨rfl, ?_, (h.drewN nq).put 1 (.int .i64 0)⟩
      have h1 : wr.grownBy (wr.drewN nq) (some B) := ⟨rfl, rfl, rfl, Nat.le_refl _, fun _ _ _ => rfl⟩
      have h2 := grownBy_set (wr.drewN nq) B 1 (.int .i64 0)
      exact ⟨h2.os.trans h1.os, h2.tape.trans h1.tape, h2.output.trans h1.output, Nat.le_trans h1.size h2.size, fun k hk hne => (h2.block k hk hne).trans (h1.block k hk hne)⟩

end Go.Proofs.Ythmngnfdfelkeaa
