/-
  What is proved: contracts of the two functions gcd and of the small helpers. No conditions beyond those stated.
-/
import Derived.Test.YtheifigkclegdaaRows
import Derived.WalkKit
import Derived.BigQuiet
import Derived.Deep.QuietTactic
import Derived.WalkLawsBesides
import Derived.WalkSpells
import Derived.Outline
import Derived.Lib.Hide
import Derived.Handy
namespace Go.Proofs.Ytheifigkclegdaa
open Go.RowKit

theorem ret_bool {a b : Bool} (h : a = b) : Ending.returned (.bool a) = .returned (.bool b) := by rw [h]
theorem ret_int {k : IntKind} {a b : Int} (h : a = b) : Ending.returned (.int k a) = .returned (.int k b) := by rw [h]

/-- lo ≤ n and n ≤ hi, as a Bool of its own. -/
def inB (n lo hi : Int) : Bool := decide (lo ≤ n ∧ n ≤ hi)

theorem within_any (n lo hi : Int) (w : World) :
    Calls Try.prog 68 #[.int .i64 n, .int .i64 lo, .int .i64 hi] w fun e w' => e = .returned (.bool (inB n lo hi)) ∧ w = w' := by
  go_enter Try.func68, Try.ntmps68
  go_wp2
  all_goals
    go_ret
    exact ⟨ret_bool (by simp [inB]; try omega), rfl⟩

/-- Go's Euclid, on numbers from 0 on. -/
theorem gcd_any (a b : Nat) (w : World) (ha : a ≤ 9223372036854775807) (hb : b ≤ 9223372036854775807) :
    Calls Try.prog 66 #[.int .i64 a, .int .i64 b] w fun e w' => e = .returned (.int .i64 (Nat.gcd a b)) ∧ ∃ n, w' = w.drewN n := by
  go_enter Try.func66, Try.ntmps66
  go_wp2
  go_loopw [0, 1] (fun x y wr => ∃ p q : Nat, p ≤ 9223372036854775807 ∧ q ≤ 9223372036854775807 ∧ x = .int .i64 p ∧ y = .int .i64 q ∧ Hid (Nat.gcd p q = Nat.gcd a b) ∧ ∃ n, wr = w.drewN n) (fun _ y _ => (intOf y).toNat)
  case atStart => exact ⟨a, b, ha, hb, rfl, rfl, rfl, 0, rfl⟩
  case round =>
    obtain ⟨p, q, hp, hq, rfl, rfl, hg, n, rfl⟩ := hrel
    by_cases h0 : q = 0
    · subst h0
      go_wp2
      go_ret
      exact ⟨ret_int (by have := hg.out; simp at this; rw [this]), n, rfl⟩
    · have h1 : (0 : Int) < q := by omega
      have hqz : ((q : Int) == 0) = false := by simp; omega
      have hqn : ((q : Int) != 0) = true := by simp; omega
      go_wp2
      go_quiet (fail)
      go_wp2
      go_roundw
      case rel => exact ⟨q, p % q, hq, by have := Nat.mod_lt p (show q > 0 by omega); omega, rfl, by simp, by unfold Hid; rw [← hg.out, Nat.gcd_comm p q, Nat.gcd_rec q p, Nat.gcd_comm], _, World.drewN_drewN _ _ _⟩
      case measure => simp [intOf]; have := Nat.mod_lt p (show q > 0 by omega); omega

theorem rgcd_any (a b : Nat) (w : World) (ha : a ≤ 9223372036854775807) (hb : b ≤ 9223372036854775807) :
    Calls Try.prog 67 #[.int .i64 a, .int .i64 b] w fun e w' => e = .returned (.int .i64 (Nat.gcd a b)) ∧ w = w' := by
  go_enter Try.func67, Try.ntmps67
  go_wp2
  go_loop [0, 1] (fun x y => ∃ p q : Nat, p ≤ 9223372036854775807 ∧ q ≤ 9223372036854775807 ∧ x = .int .i64 p ∧ y = .int .i64 q ∧ Hid (Nat.gcd p q = Nat.gcd a b)) (fun _ y => (intOf y).toNat)
  case atStart => exact ⟨a, b, ha, hb, rfl, rfl, rfl⟩
  case round =>
    obtain ⟨p, q, hp, hq, rfl, rfl, hg⟩ := hrel
    by_cases h0 : q = 0
    · subst h0
      go_wp2
      go_ret
      exact ⟨ret_int (by have := hg.out; simp at this; rw [this]), rfl⟩
    · have h1 : (0 : Int) < q := by omega
      have hqz : ((q : Int) == 0) = false := by simp; omega
      go_wp2
      go_round
      case rel => exact ⟨q, p % q, hq, by have := Nat.mod_lt p (show q > 0 by omega); omega, rfl, by simp, by unfold Hid; rw [← hg.out, Nat.gcd_comm p q, Nat.gcd_rec q p, Nat.gcd_comm]⟩
      case measure => simp [intOf]; have := Nat.mod_lt p (show q > 0 by omega); omega

theorem rwithin_any (n lo hi : Int) (w : World) :
    Calls Try.prog 78 #[.int .i64 n, .int .i64 lo, .int .i64 hi] w fun e w' => e = .returned (.bool (inB n lo hi)) ∧ w = w' := by
  go_enter Try.func78, Try.ntmps78
  go_wp2
  all_goals
    go_ret
    exact ⟨ret_bool (by simp [inB]; try omega), rfl⟩

theorem gwithin_any (n lo hi : Int) (w : World) :
    Calls Try.prog 87 #[.int .i64 n, .int .i64 lo, .int .i64 hi] w fun e w' => e = .returned (.bool (inB n lo hi)) ∧ w = w' := by
  go_enter Try.func87, Try.ntmps87
  go_wp2
  all_goals
    go_ret
    exact ⟨ret_bool (by simp [inB]; try omega), rfl⟩

end Go.Proofs.Ytheifigkclegdaa
