/-
  What is proved: the contract of short, and words for calls that read a train.
-/
import Derived.Test.YtheifigkclegdaaLawO
namespace Go.Proofs.Ytheifigkclegdaa
open Go.RowKit

/-- A call that returns v and only makes memory, where the train L lies at A. -/
def RetR (A : Option Addr) (L : List Mesh) (f : FuncId) (args : Array Value) (v : Value) : Prop := ∀ W : World, RowAt W A (meshCells L) → Calls Try.prog f args W fun e w' => e = .returned v ∧ Below W.heap.size W w'

theorem short_true (A : Option Addr) (n c : Nat) (w : World) (h : n ≤ 100) :
    Calls Try.prog 17 #[.agg #[.slice A n c]] w fun e w' => e = .returned (.bool true) ∧ Below w.heap.size w w' := by
  go_enter Try.func17, Try.ntmps17
  go_wp2
  go_ret
  exact ⟨ret_bool (by simp; omega), (Below.refl _ _).alloc (Nat.le_refl _) _⟩

theorem short_false (A : Option Addr) (n c : Nat) (w : World) (h : ¬ n ≤ 100) :
    Calls Try.prog 17 #[.agg #[.slice A n c]] w fun e w' => e = .returned (.bool false) ∧ Below w.heap.size w w' := by
  go_enter Try.func17, Try.ntmps17
  go_wp2
  go_ret
  exact ⟨ret_bool (by simp; omega), (Below.refl _ _).alloc (Nat.le_refl _) _⟩

end Go.Proofs.Ytheifigkclegdaa
