/-
  NARROWER THAN 'FOR EVERY INPUT', by the rows' own cells (each row's printed sentence says how): TruthWays: loops · TruthReaches: loops · TruthMoments: loops · TruthTrees: loops · TruthProves: loops.
  DERIVED. THE GIVEN ROWS OF THIS SEAT. 12 by the template 'for every input the law returns true; each argument reads behind the call as it read before'; 0 by the template 'total and deterministic' (their statements: YthmngnfdfelkeaaTotals.lean).
  GIVEN WITH THE SEED: the statements are not yours to turn. If you find one false, say at which input.
  Laid BY PROGRAM, IN A SANDBOX (cutbox-rows.mjs): the forced cells as the released guide's own fill.sh prints them over the translation 02fc48030bc7fb52… (all of the seat's roots in one cut). By AI agents, Wed Nov 11 2026. No macro, syntax, notation, axiom, sorry.
-/
import Derived.Test.YthmngnfdfelkeaaChecked
import GoSem.Claim
import GoSem.ClaimJoined
import GoSem.ClaimMapViews
import Derived.JoinedTies
import Derived.KernelRfl
namespace Go.Proofs.Ythmngnfdfelkeaa
/- THE CELL 'sum', in the pinned program and in every row, IS THE sha256 OF THE DUMP (.gsa) THAT YthmngnfdfelkeaaProg.lean LOADS. Nothing in Lean hashes anything: it is a label: what it is worth is what the hold of that sum in a sandbox is worth. -/
noncomputable def Try.pinned : Pinned := { name := "ythmngnfdfelkeaa", sum := "02fc48030bc7fb52a7211a1198aabb31e8e06e2916dd7eb3a219ed1220cffa5f", checked := Try.checked }
namespace Rows
def none {H : Type} : Left H := { results := [], args := [] }

/-- 'millrindlaw06.TruthLeads': WHATEVER THE INPUT: true; the input reads as it did. -/
def truthLeadsSpec : ChangeSpec := { name := "truthLeads", fn := fun _ => fun
  | [d] => { results := [.lit (.bool true)], args := [d] }
  | _ => none }
def truthLeadsRow : OpenClaim := { program := "ythmngnfdfelkeaa", sum := "02fc48030bc7fb52a7211a1198aabb31e8e06e2916dd7eb3a219ed1220cffa5f", func := "millrind/millrindlaw06.TruthLeads", spec := "truthLeads", unfollowed := true, recurses := true, apart := false }
def TruthLeadsSaid : Prop := truthLeadsRow.holds Try.pinned (OpenSpec.ofChange truthLeadsSpec)

/-- ITS FALSE NEIGHBOUR: 'it returns false'. Refute it at one input. -/
def truthLeadsWrong : ChangeSpec := { name := "truthLeads", fn := fun _ => fun
  | [d] => { results := [.lit (.bool false)], args := [d] }
  | _ => none }
def TruthLeadsWrongFalsely : Prop := truthLeadsRow.holds Try.pinned (OpenSpec.ofChange truthLeadsWrong)

/-- 'millrindlaw06.TruthReds': WHATEVER THE INPUT: true; the input reads as it did. -/
def truthRedsSpec : ChangeSpec := { name := "truthReds", fn := fun _ => fun
  | [d1, d2, d3] => { results := [.lit (.bool true)], args := [d1, d2, d3] }
  | _ => none }
def truthRedsRow : OpenClaim := { program := "ythmngnfdfelkeaa", sum := "02fc48030bc7fb52a7211a1198aabb31e8e06e2916dd7eb3a219ed1220cffa5f", func := "millrind/millrindlaw06.TruthReds", spec := "truthReds", unfollowed := true, recurses := true, apart := false }
def TruthRedsSaid : Prop := truthRedsRow.holds Try.pinned (OpenSpec.ofChange truthRedsSpec)

/-- ITS FALSE NEIGHBOUR: 'it returns false'. Refute it at one input. -/
def truthRedsWrong : ChangeSpec := { name := "truthReds", fn := fun _ => fun
  | [d1, d2, d3] => { results := [.lit (.bool false)], args := [d1, d2, d3] }
  | _ => none }
def TruthRedsWrongFalsely : Prop := truthRedsRow.holds Try.pinned (OpenSpec.ofChange truthRedsWrong)

/-- 'millrindlaw06.TruthAdds': WHATEVER THE INPUT: true; the input reads as it did. -/
def truthAddsSpec : ChangeSpec := { name := "truthAdds", fn := fun _ => fun
  | [d1, d2, d3] => { results := [.lit (.bool true)], args := [d1, d2, d3] }
  | _ => none }
def truthAddsRow : OpenClaim := { program := "ythmngnfdfelkeaa", sum := "02fc48030bc7fb52a7211a1198aabb31e8e06e2916dd7eb3a219ed1220cffa5f", func := "millrind/millrindlaw06.TruthAdds", spec := "truthAdds", unfollowed := true, recurses := true, apart := false }
def TruthAddsSaid : Prop := truthAddsRow.holds Try.pinned (OpenSpec.ofChange truthAddsSpec)

/-- ITS FALSE NEIGHBOUR: 'it returns false'. Refute it at one input. -/
def truthAddsWrong : ChangeSpec := { name := "truthAdds", fn := fun _ => fun
  | [d1, d2, d3] => { results := [.lit (.bool false)], args := [d1, d2, d3] }
  | _ => none }
def TruthAddsWrongFalsely : Prop := truthAddsRow.holds Try.pinned (OpenSpec.ofChange truthAddsWrong)

/-- 'millrindlaw06.TruthEdges': WHATEVER THE INPUT: true; the input reads as it did. -/
def truthEdgesSpec : ChangeSpec := { name := "truthEdges", fn := fun _ => fun
  | [d1, d2, d3] => { results := [.lit (.bool true)], args := [d1, d2, d3] }
  | _ => none }
def truthEdgesRow : OpenClaim := { program := "ythmngnfdfelkeaa", sum := "02fc48030bc7fb52a7211a1198aabb31e8e06e2916dd7eb3a219ed1220cffa5f", func := "millrind/millrindlaw06.TruthEdges", spec := "truthEdges", unfollowed := true, recurses := true, apart := false }
def TruthEdgesSaid : Prop := truthEdgesRow.holds Try.pinned (OpenSpec.ofChange truthEdgesSpec)

/-- ITS FALSE NEIGHBOUR: 'it returns false'. Refute it at one input. -/
def truthEdgesWrong : ChangeSpec := { name := "truthEdges", fn := fun _ => fun
  | [d1, d2, d3] => { results := [.lit (.bool false)], args := [d1, d2, d3] }
  | _ => none }
def TruthEdgesWrongFalsely : Prop := truthEdgesRow.holds Try.pinned (OpenSpec.ofChange truthEdgesWrong)

/-- 'millrindlaw06.TruthWays': WHATEVER THE INPUT: true; the input reads as it did. -/
def truthWaysSpec : ChangeSpec := { name := "truthWays", fn := fun _ => fun
  | [d1, d2] => { results := [.lit (.bool true)], args := [d1, d2] }
  | _ => none }
def truthWaysRow : OpenClaim := { program := "ythmngnfdfelkeaa", sum := "02fc48030bc7fb52a7211a1198aabb31e8e06e2916dd7eb3a219ed1220cffa5f", func := "millrind/millrindlaw06.TruthWays", spec := "truthWays", unfollowed := true, recurses := true, loops := true, apart := false }
def TruthWaysSaid : Prop := truthWaysRow.holds Try.pinned (OpenSpec.ofChange truthWaysSpec)

/-- ITS FALSE NEIGHBOUR: 'it returns false'. Refute it at one input. -/
def truthWaysWrong : ChangeSpec := { name := "truthWays", fn := fun _ => fun
  | [d1, d2] => { results := [.lit (.bool false)], args := [d1, d2] }
  | _ => none }
def TruthWaysWrongFalsely : Prop := truthWaysRow.holds Try.pinned (OpenSpec.ofChange truthWaysWrong)

/-- 'millrindlaw06.TruthBalances': WHATEVER THE INPUT: true; the input reads as it did. -/
def truthBalancesSpec : ChangeSpec := { name := "truthBalances", fn := fun _ => fun
  | [d1, d2] => { results := [.lit (.bool true)], args := [d1, d2] }
  | _ => none }
def truthBalancesRow : OpenClaim := { program := "ythmngnfdfelkeaa", sum := "02fc48030bc7fb52a7211a1198aabb31e8e06e2916dd7eb3a219ed1220cffa5f", func := "millrind/millrindlaw06.TruthBalances", spec := "truthBalances", unfollowed := true, recurses := true, apart := false }
def TruthBalancesSaid : Prop := truthBalancesRow.holds Try.pinned (OpenSpec.ofChange truthBalancesSpec)

/-- ITS FALSE NEIGHBOUR: 'it returns false'. Refute it at one input. -/
def truthBalancesWrong : ChangeSpec := { name := "truthBalances", fn := fun _ => fun
  | [d1, d2] => { results := [.lit (.bool false)], args := [d1, d2] }
  | _ => none }
def TruthBalancesWrongFalsely : Prop := truthBalancesRow.holds Try.pinned (OpenSpec.ofChange truthBalancesWrong)

/-- 'millrindlaw06.TruthGaps': WHATEVER THE INPUT: true; the input reads as it did. -/
def truthGapsSpec : ChangeSpec := { name := "truthGaps", fn := fun _ => fun
  | [d1, d2] => { results := [.lit (.bool true)], args := [d1, d2] }
  | _ => none }
def truthGapsRow : OpenClaim := { program := "ythmngnfdfelkeaa", sum := "02fc48030bc7fb52a7211a1198aabb31e8e06e2916dd7eb3a219ed1220cffa5f", func := "millrind/millrindlaw06.TruthGaps", spec := "truthGaps", unfollowed := true, recurses := true, apart := false }
def TruthGapsSaid : Prop := truthGapsRow.holds Try.pinned (OpenSpec.ofChange truthGapsSpec)

/-- ITS FALSE NEIGHBOUR: 'it returns false'. Refute it at one input. -/
def truthGapsWrong : ChangeSpec := { name := "truthGaps", fn := fun _ => fun
  | [d1, d2] => { results := [.lit (.bool false)], args := [d1, d2] }
  | _ => none }
def TruthGapsWrongFalsely : Prop := truthGapsRow.holds Try.pinned (OpenSpec.ofChange truthGapsWrong)

/-- 'millrindlaw06.TruthLifts': WHATEVER THE INPUT: true; the input reads as it did. -/
def truthLiftsSpec : ChangeSpec := { name := "truthLifts", fn := fun _ => fun
  | [d1, d2, d3] => { results := [.lit (.bool true)], args := [d1, d2, d3] }
  | _ => none }
def truthLiftsRow : OpenClaim := { program := "ythmngnfdfelkeaa", sum := "02fc48030bc7fb52a7211a1198aabb31e8e06e2916dd7eb3a219ed1220cffa5f", func := "millrind/millrindlaw06.TruthLifts", spec := "truthLifts", unfollowed := true, recurses := true, apart := false }
def TruthLiftsSaid : Prop := truthLiftsRow.holds Try.pinned (OpenSpec.ofChange truthLiftsSpec)

/-- ITS FALSE NEIGHBOUR: 'it returns false'. Refute it at one input. -/
def truthLiftsWrong : ChangeSpec := { name := "truthLifts", fn := fun _ => fun
  | [d1, d2, d3] => { results := [.lit (.bool false)], args := [d1, d2, d3] }
  | _ => none }
def TruthLiftsWrongFalsely : Prop := truthLiftsRow.holds Try.pinned (OpenSpec.ofChange truthLiftsWrong)

/-- 'millrindlaw06.TruthReaches': WHATEVER THE INPUT: true; the input reads as it did. -/
def truthReachesSpec : ChangeSpec := { name := "truthReaches", fn := fun _ => fun
  | [d1, d2] => { results := [.lit (.bool true)], args := [d1, d2] }
  | _ => none }
def truthReachesRow : OpenClaim := { program := "ythmngnfdfelkeaa", sum := "02fc48030bc7fb52a7211a1198aabb31e8e06e2916dd7eb3a219ed1220cffa5f", func := "millrind/millrindlaw06.TruthReaches", spec := "truthReaches", unfollowed := true, recurses := true, loops := true, apart := false }
def TruthReachesSaid : Prop := truthReachesRow.holds Try.pinned (OpenSpec.ofChange truthReachesSpec)

/-- ITS FALSE NEIGHBOUR: 'it returns false'. Refute it at one input. -/
def truthReachesWrong : ChangeSpec := { name := "truthReaches", fn := fun _ => fun
  | [d1, d2] => { results := [.lit (.bool false)], args := [d1, d2] }
  | _ => none }
def TruthReachesWrongFalsely : Prop := truthReachesRow.holds Try.pinned (OpenSpec.ofChange truthReachesWrong)

/-- 'millrindlaw06.TruthMoments': WHATEVER THE INPUT: true; the input reads as it did. -/
def truthMomentsSpec : ChangeSpec := { name := "truthMoments", fn := fun _ => fun
  | [d1, d2] => { results := [.lit (.bool true)], args := [d1, d2] }
  | _ => none }
def truthMomentsRow : OpenClaim := { program := "ythmngnfdfelkeaa", sum := "02fc48030bc7fb52a7211a1198aabb31e8e06e2916dd7eb3a219ed1220cffa5f", func := "millrind/millrindlaw06.TruthMoments", spec := "truthMoments", unfollowed := true, recurses := true, loops := true, apart := false }
def TruthMomentsSaid : Prop := truthMomentsRow.holds Try.pinned (OpenSpec.ofChange truthMomentsSpec)

/-- ITS FALSE NEIGHBOUR: 'it returns false'. Refute it at one input. -/
def truthMomentsWrong : ChangeSpec := { name := "truthMoments", fn := fun _ => fun
  | [d1, d2] => { results := [.lit (.bool false)], args := [d1, d2] }
  | _ => none }
def TruthMomentsWrongFalsely : Prop := truthMomentsRow.holds Try.pinned (OpenSpec.ofChange truthMomentsWrong)

/-- 'millrindlaw06.TruthTrees': WHATEVER THE INPUT: true; the input reads as it did. -/
def truthTreesSpec : ChangeSpec := { name := "truthTrees", fn := fun _ => fun
  | [d1, d2] => { results := [.lit (.bool true)], args := [d1, d2] }
  | _ => none }
def truthTreesRow : OpenClaim := { program := "ythmngnfdfelkeaa", sum := "02fc48030bc7fb52a7211a1198aabb31e8e06e2916dd7eb3a219ed1220cffa5f", func := "millrind/millrindlaw06.TruthTrees", spec := "truthTrees", unfollowed := true, recurses := true, loops := true, apart := false }
def TruthTreesSaid : Prop := truthTreesRow.holds Try.pinned (OpenSpec.ofChange truthTreesSpec)

/-- ITS FALSE NEIGHBOUR: 'it returns false'. Refute it at one input. -/
def truthTreesWrong : ChangeSpec := { name := "truthTrees", fn := fun _ => fun
  | [d1, d2] => { results := [.lit (.bool false)], args := [d1, d2] }
  | _ => none }
def TruthTreesWrongFalsely : Prop := truthTreesRow.holds Try.pinned (OpenSpec.ofChange truthTreesWrong)

/-- 'millrindlaw06.TruthProves': WHATEVER THE INPUT: true; the input reads as it did. -/
def truthProvesSpec : ChangeSpec := { name := "truthProves", fn := fun _ => fun
  | [d1, d2] => { results := [.lit (.bool true)], args := [d1, d2] }
  | _ => none }
def truthProvesRow : OpenClaim := { program := "ythmngnfdfelkeaa", sum := "02fc48030bc7fb52a7211a1198aabb31e8e06e2916dd7eb3a219ed1220cffa5f", func := "millrind/millrindlaw06.TruthProves", spec := "truthProves", unfollowed := true, recurses := true, loops := true, apart := false }
def TruthProvesSaid : Prop := truthProvesRow.holds Try.pinned (OpenSpec.ofChange truthProvesSpec)

/-- ITS FALSE NEIGHBOUR: 'it returns false'. Refute it at one input. -/
def truthProvesWrong : ChangeSpec := { name := "truthProves", fn := fun _ => fun
  | [d1, d2] => { results := [.lit (.bool false)], args := [d1, d2] }
  | _ => none }
def TruthProvesWrongFalsely : Prop := truthProvesRow.holds Try.pinned (OpenSpec.ofChange truthProvesWrong)

/- THE SECOND FORM. 'bulk': how many values and letters a reading holds, each counted each time it is reached (what is shared counts as often as it is met; a slice's spare places count too). A statement '..UptoSaid' is the law's where the arguments, and the package variables that the reading takes, are together of bulk at most 1048576: NARROWER than '..Said'. Prove '..Said' where nothing that the law and all that it calls make is longer than what came in: it says more and counts as full. Else prove '..UptoSaid'. A law counts once. -/
mutual
def uptoBulk {H : Type} : DataW H → Nat
  | .lit (.string bytes) => bytes.length + 1
  | .lit _ => 1
  | .nil => 1
  | .ptr d => uptoBulk d + 1
  | .slice elems spare => uptoBulkAll elems + uptoBulkAll spare + 1
  | .agg parts => uptoBulkAll parts + 1
  | .iface _ d => uptoBulk d + 1
  | .map entries => uptoBulkEntries entries + 1
  | .held _ => 1
def uptoBulkAll {H : Type} : List (DataW H) → Nat
  | [] => 0
  | d :: r => uptoBulk d + uptoBulkAll r
def uptoBulkEntries {H : Type} : List (Lit × DataW H) → Nat
  | [] => 0
  | x :: r => uptoBulkEntry x + uptoBulkEntries r
def uptoBulkEntry {H : Type} : Lit × DataW H → Nat
  | (.string bytes, d) => bytes.length + uptoBulk d + 1
  | (_, d) => uptoBulk d + 1
 end
def uptoSmall : (H : Type) → List (DataW H) → Bool := fun _ ds => decide (uptoBulkAll ds ≤ 1048576)
def OpenSpec.upto (s : _root_.Go.ChangeSpec) : _root_.Go.OpenSpec := { _root_.Go.OpenSpec.ofChange s with cond := some uptoSmall }

/-- 'millrindlaw06.TruthLeads', WHERE WHAT IT READS IS OF BULK AT MOST 1048576: true; the input reads as it did. -/
def truthLeadsUptoRow : OpenClaim := { program := "ythmngnfdfelkeaa", sum := "02fc48030bc7fb52a7211a1198aabb31e8e06e2916dd7eb3a219ed1220cffa5f", func := "millrind/millrindlaw06.TruthLeads", spec := "truthLeads", unfollowed := true, recurses := true, apart := false, narrowed := true }
def TruthLeadsUptoSaid : Prop := truthLeadsUptoRow.holds Try.pinned (OpenSpec.upto truthLeadsSpec)

/-- 'millrindlaw06.TruthReds', WHERE WHAT IT READS IS OF BULK AT MOST 1048576: true; the input reads as it did. -/
def truthRedsUptoRow : OpenClaim := { program := "ythmngnfdfelkeaa", sum := "02fc48030bc7fb52a7211a1198aabb31e8e06e2916dd7eb3a219ed1220cffa5f", func := "millrind/millrindlaw06.TruthReds", spec := "truthReds", unfollowed := true, recurses := true, apart := false, narrowed := true }
def TruthRedsUptoSaid : Prop := truthRedsUptoRow.holds Try.pinned (OpenSpec.upto truthRedsSpec)

/-- 'millrindlaw06.TruthAdds', WHERE WHAT IT READS IS OF BULK AT MOST 1048576: true; the input reads as it did. -/
def truthAddsUptoRow : OpenClaim := { program := "ythmngnfdfelkeaa", sum := "02fc48030bc7fb52a7211a1198aabb31e8e06e2916dd7eb3a219ed1220cffa5f", func := "millrind/millrindlaw06.TruthAdds", spec := "truthAdds", unfollowed := true, recurses := true, apart := false, narrowed := true }
def TruthAddsUptoSaid : Prop := truthAddsUptoRow.holds Try.pinned (OpenSpec.upto truthAddsSpec)

/-- 'millrindlaw06.TruthEdges', WHERE WHAT IT READS IS OF BULK AT MOST 1048576: true; the input reads as it did. -/
def truthEdgesUptoRow : OpenClaim := { program := "ythmngnfdfelkeaa", sum := "02fc48030bc7fb52a7211a1198aabb31e8e06e2916dd7eb3a219ed1220cffa5f", func := "millrind/millrindlaw06.TruthEdges", spec := "truthEdges", unfollowed := true, recurses := true, apart := false, narrowed := true }
def TruthEdgesUptoSaid : Prop := truthEdgesUptoRow.holds Try.pinned (OpenSpec.upto truthEdgesSpec)

/-- 'millrindlaw06.TruthWays', WHERE WHAT IT READS IS OF BULK AT MOST 1048576: true; the input reads as it did. -/
def truthWaysUptoRow : OpenClaim := { program := "ythmngnfdfelkeaa", sum := "02fc48030bc7fb52a7211a1198aabb31e8e06e2916dd7eb3a219ed1220cffa5f", func := "millrind/millrindlaw06.TruthWays", spec := "truthWays", unfollowed := true, recurses := true, loops := true, apart := false, narrowed := true }
def TruthWaysUptoSaid : Prop := truthWaysUptoRow.holds Try.pinned (OpenSpec.upto truthWaysSpec)

/-- 'millrindlaw06.TruthBalances', WHERE WHAT IT READS IS OF BULK AT MOST 1048576: true; the input reads as it did. -/
def truthBalancesUptoRow : OpenClaim := { program := "ythmngnfdfelkeaa", sum := "02fc48030bc7fb52a7211a1198aabb31e8e06e2916dd7eb3a219ed1220cffa5f", func := "millrind/millrindlaw06.TruthBalances", spec := "truthBalances", unfollowed := true, recurses := true, apart := false, narrowed := true }
def TruthBalancesUptoSaid : Prop := truthBalancesUptoRow.holds Try.pinned (OpenSpec.upto truthBalancesSpec)

/-- 'millrindlaw06.TruthGaps', WHERE WHAT IT READS IS OF BULK AT MOST 1048576: true; the input reads as it did. -/
def truthGapsUptoRow : OpenClaim := { program := "ythmngnfdfelkeaa", sum := "02fc48030bc7fb52a7211a1198aabb31e8e06e2916dd7eb3a219ed1220cffa5f", func := "millrind/millrindlaw06.TruthGaps", spec := "truthGaps", unfollowed := true, recurses := true, apart := false, narrowed := true }
def TruthGapsUptoSaid : Prop := truthGapsUptoRow.holds Try.pinned (OpenSpec.upto truthGapsSpec)

/-- 'millrindlaw06.TruthLifts', WHERE WHAT IT READS IS OF BULK AT MOST 1048576: true; the input reads as it did. -/
def truthLiftsUptoRow : OpenClaim := { program := "ythmngnfdfelkeaa", sum := "02fc48030bc7fb52a7211a1198aabb31e8e06e2916dd7eb3a219ed1220cffa5f", func := "millrind/millrindlaw06.TruthLifts", spec := "truthLifts", unfollowed := true, recurses := true, apart := false, narrowed := true }
def TruthLiftsUptoSaid : Prop := truthLiftsUptoRow.holds Try.pinned (OpenSpec.upto truthLiftsSpec)

/-- 'millrindlaw06.TruthReaches', WHERE WHAT IT READS IS OF BULK AT MOST 1048576: true; the input reads as it did. -/
def truthReachesUptoRow : OpenClaim := { program := "ythmngnfdfelkeaa", sum := "02fc48030bc7fb52a7211a1198aabb31e8e06e2916dd7eb3a219ed1220cffa5f", func := "millrind/millrindlaw06.TruthReaches", spec := "truthReaches", unfollowed := true, recurses := true, loops := true, apart := false, narrowed := true }
def TruthReachesUptoSaid : Prop := truthReachesUptoRow.holds Try.pinned (OpenSpec.upto truthReachesSpec)

/-- 'millrindlaw06.TruthMoments', WHERE WHAT IT READS IS OF BULK AT MOST 1048576: true; the input reads as it did. -/
def truthMomentsUptoRow : OpenClaim := { program := "ythmngnfdfelkeaa", sum := "02fc48030bc7fb52a7211a1198aabb31e8e06e2916dd7eb3a219ed1220cffa5f", func := "millrind/millrindlaw06.TruthMoments", spec := "truthMoments", unfollowed := true, recurses := true, loops := true, apart := false, narrowed := true }
def TruthMomentsUptoSaid : Prop := truthMomentsUptoRow.holds Try.pinned (OpenSpec.upto truthMomentsSpec)

/-- 'millrindlaw06.TruthTrees', WHERE WHAT IT READS IS OF BULK AT MOST 1048576: true; the input reads as it did. -/
def truthTreesUptoRow : OpenClaim := { program := "ythmngnfdfelkeaa", sum := "02fc48030bc7fb52a7211a1198aabb31e8e06e2916dd7eb3a219ed1220cffa5f", func := "millrind/millrindlaw06.TruthTrees", spec := "truthTrees", unfollowed := true, recurses := true, loops := true, apart := false, narrowed := true }
def TruthTreesUptoSaid : Prop := truthTreesUptoRow.holds Try.pinned (OpenSpec.upto truthTreesSpec)

/-- 'millrindlaw06.TruthProves', WHERE WHAT IT READS IS OF BULK AT MOST 1048576: true; the input reads as it did. -/
def truthProvesUptoRow : OpenClaim := { program := "ythmngnfdfelkeaa", sum := "02fc48030bc7fb52a7211a1198aabb31e8e06e2916dd7eb3a219ed1220cffa5f", func := "millrind/millrindlaw06.TruthProves", spec := "truthProves", unfollowed := true, recurses := true, loops := true, apart := false, narrowed := true }
def TruthProvesUptoSaid : Prop := truthProvesUptoRow.holds Try.pinned (OpenSpec.upto truthProvesSpec)

end Rows
end Go.Proofs.Ythmngnfdfelkeaa
