/-
  Facts that every row asks: the program's knob and layout.
-/
import Derived.Test.YtkikjmkpndmdcaaPost

namespace Go.Proofs.Ytkikjmkpndmdcaa
open Go.RowKit

theorem Try.own : ownKnob Try.prog.godebug = none := by kernel_rfl
theorem Try.laidOut : laidOutB Try.prog = true := by kernel_rfl

end Go.Proofs.Ytkikjmkpndmdcaa
