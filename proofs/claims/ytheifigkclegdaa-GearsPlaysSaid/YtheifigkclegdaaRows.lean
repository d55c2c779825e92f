/-
  No cell of these rows narrows 'for every input' (looked for: loops, veiled, ifaces, maps, wideKeys, modest, calm, conditions, laid).
  DERIVED. THE GIVEN ROWS OF THIS SEAT. 13 by the template 'for every input the law returns true; each argument reads behind the call as it read before'; 0 by the template 'total and deterministic' (their statements: YtheifigkclegdaaTotals.lean).
  GIVEN WITH THE SEED: the statements are not yours to turn. If you find one false, say at which input.
  Laid BY PROGRAM, IN A SANDBOX (cutbox-rows.mjs): the forced cells as the released guide's own fill.sh prints them over the translation cb127d8b3c2b3d52… (all of the seat's roots in one cut). By AI agents, Wed Nov 11 2026. No macro, syntax, notation, axiom, sorry.
-/
import Derived.Test.YtheifigkclegdaaChecked
import GoSem.Claim
import GoSem.ClaimJoined
import GoSem.ClaimMapViews
import Derived.JoinedTies
import Derived.KernelRfl
namespace Go.Proofs.Ytheifigkclegdaa
/- THE CELL 'sum', in the pinned program and in every row, IS THE sha256 OF THE DUMP (.gsa) THAT YtheifigkclegdaaProg.lean LOADS. Nothing in Lean hashes anything: it is a label: what it is worth is what the hold of that sum in a sandbox is worth. -/
noncomputable def Try.pinned : Pinned := { name := "ytheifigkclegdaa", sum := "cb127d8b3c2b3d524f440316b8da137e89e7be21b4c2efb62d652e52282a3cd8", checked := Try.checked }
namespace Rows
def none {H : Type} : Left H := { results := [], args := [] }

/-- 'millrindlaw07.GearsStands': WHATEVER THE INPUT: true; the input reads as it did. -/
def gearsStandsSpec : ChangeSpec := { name := "gearsStands", fn := fun _ => fun
  | [d1, d2] => { results := [.lit (.bool true)], args := [d1, d2] }
  | _ => none }
def gearsStandsRow : OpenClaim := { program := "ytheifigkclegdaa", sum := "cb127d8b3c2b3d524f440316b8da137e89e7be21b4c2efb62d652e52282a3cd8", func := "millrind/millrindlaw07.GearsStands", spec := "gearsStands", unfollowed := true, recurses := true, apart := false }
def GearsStandsSaid : Prop := gearsStandsRow.holds Try.pinned (OpenSpec.ofChange gearsStandsSpec)

/-- ITS FALSE NEIGHBOUR: 'it returns false'. Refute it at one input. -/
def gearsStandsWrong : ChangeSpec := { name := "gearsStands", fn := fun _ => fun
  | [d1, d2] => { results := [.lit (.bool false)], args := [d1, d2] }
  | _ => none }
def GearsStandsWrongFalsely : Prop := gearsStandsRow.holds Try.pinned (OpenSpec.ofChange gearsStandsWrong)

/-- 'millrindlaw07.GearsAgain': WHATEVER THE INPUT: true; the input reads as it did. -/
def gearsAgainSpec : ChangeSpec := { name := "gearsAgain", fn := fun _ => fun
  | [d1, d2] => { results := [.lit (.bool true)], args := [d1, d2] }
  | _ => none }
def gearsAgainRow : OpenClaim := { program := "ytheifigkclegdaa", sum := "cb127d8b3c2b3d524f440316b8da137e89e7be21b4c2efb62d652e52282a3cd8", func := "millrind/millrindlaw07.GearsAgain", spec := "gearsAgain", unfollowed := true, recurses := true, apart := false }
def GearsAgainSaid : Prop := gearsAgainRow.holds Try.pinned (OpenSpec.ofChange gearsAgainSpec)

/-- ITS FALSE NEIGHBOUR: 'it returns false'. Refute it at one input. -/
def gearsAgainWrong : ChangeSpec := { name := "gearsAgain", fn := fun _ => fun
  | [d1, d2] => { results := [.lit (.bool false)], args := [d1, d2] }
  | _ => none }
def GearsAgainWrongFalsely : Prop := gearsAgainRow.holds Try.pinned (OpenSpec.ofChange gearsAgainWrong)

/-- 'millrindlaw07.GearsPlay': WHATEVER THE INPUT: true; the input reads as it did. -/
def gearsPlaySpec : ChangeSpec := { name := "gearsPlay", fn := fun _ => fun
  | [d1, d2, d3, d4] => { results := [.lit (.bool true)], args := [d1, d2, d3, d4] }
  | _ => none }
def gearsPlayRow : OpenClaim := { program := "ytheifigkclegdaa", sum := "cb127d8b3c2b3d524f440316b8da137e89e7be21b4c2efb62d652e52282a3cd8", func := "millrind/millrindlaw07.GearsPlay", spec := "gearsPlay", unfollowed := true, recurses := true, apart := false }
def GearsPlaySaid : Prop := gearsPlayRow.holds Try.pinned (OpenSpec.ofChange gearsPlaySpec)

/-- ITS FALSE NEIGHBOUR: 'it returns false'. Refute it at one input. -/
def gearsPlayWrong : ChangeSpec := { name := "gearsPlay", fn := fun _ => fun
  | [d1, d2, d3, d4] => { results := [.lit (.bool false)], args := [d1, d2, d3, d4] }
  | _ => none }
def GearsPlayWrongFalsely : Prop := gearsPlayRow.holds Try.pinned (OpenSpec.ofChange gearsPlayWrong)

/-- 'millrindlaw07.GearsTrains': WHATEVER THE INPUT: true; the input reads as it did. -/
def gearsTrainsSpec : ChangeSpec := { name := "gearsTrains", fn := fun _ => fun
  | [d1, d2, d3, d4] => { results := [.lit (.bool true)], args := [d1, d2, d3, d4] }
  | _ => none }
def gearsTrainsRow : OpenClaim := { program := "ytheifigkclegdaa", sum := "cb127d8b3c2b3d524f440316b8da137e89e7be21b4c2efb62d652e52282a3cd8", func := "millrind/millrindlaw07.GearsTrains", spec := "gearsTrains", unfollowed := true, recurses := true, apart := false }
def GearsTrainsSaid : Prop := gearsTrainsRow.holds Try.pinned (OpenSpec.ofChange gearsTrainsSpec)

/-- ITS FALSE NEIGHBOUR: 'it returns false'. Refute it at one input. -/
def gearsTrainsWrong : ChangeSpec := { name := "gearsTrains", fn := fun _ => fun
  | [d1, d2, d3, d4] => { results := [.lit (.bool false)], args := [d1, d2, d3, d4] }
  | _ => none }
def GearsTrainsWrongFalsely : Prop := gearsTrainsRow.holds Try.pinned (OpenSpec.ofChange gearsTrainsWrong)

/-- 'millrindlaw07.GearsMeets': WHATEVER THE INPUT: true; the input reads as it did. -/
def gearsMeetsSpec : ChangeSpec := { name := "gearsMeets", fn := fun _ => fun
  | [d] => { results := [.lit (.bool true)], args := [d] }
  | _ => none }
def gearsMeetsRow : OpenClaim := { program := "ytheifigkclegdaa", sum := "cb127d8b3c2b3d524f440316b8da137e89e7be21b4c2efb62d652e52282a3cd8", func := "millrind/millrindlaw07.GearsMeets", spec := "gearsMeets", unfollowed := true, recurses := true, apart := false }
def GearsMeetsSaid : Prop := gearsMeetsRow.holds Try.pinned (OpenSpec.ofChange gearsMeetsSpec)

/-- ITS FALSE NEIGHBOUR: 'it returns false'. Refute it at one input. -/
def gearsMeetsWrong : ChangeSpec := { name := "gearsMeets", fn := fun _ => fun
  | [d] => { results := [.lit (.bool false)], args := [d] }
  | _ => none }
def GearsMeetsWrongFalsely : Prop := gearsMeetsRow.holds Try.pinned (OpenSpec.ofChange gearsMeetsWrong)

/-- 'millrindlaw07.GearsField': WHATEVER THE INPUT: true; the input reads as it did. -/
def gearsFieldSpec : ChangeSpec := { name := "gearsField", fn := fun _ => fun
  | [d1, d2, d3] => { results := [.lit (.bool true)], args := [d1, d2, d3] }
  | _ => none }
def gearsFieldRow : OpenClaim := { program := "ytheifigkclegdaa", sum := "cb127d8b3c2b3d524f440316b8da137e89e7be21b4c2efb62d652e52282a3cd8", func := "millrind/millrindlaw07.GearsField", spec := "gearsField", unfollowed := true, recurses := true, apart := false }
def GearsFieldSaid : Prop := gearsFieldRow.holds Try.pinned (OpenSpec.ofChange gearsFieldSpec)

/-- ITS FALSE NEIGHBOUR: 'it returns false'. Refute it at one input. -/
def gearsFieldWrong : ChangeSpec := { name := "gearsField", fn := fun _ => fun
  | [d1, d2, d3] => { results := [.lit (.bool false)], args := [d1, d2, d3] }
  | _ => none }
def GearsFieldWrongFalsely : Prop := gearsFieldRow.holds Try.pinned (OpenSpec.ofChange gearsFieldWrong)

/-- 'millrindlaw07.GearsJoin': WHATEVER THE INPUT: true; the input reads as it did. -/
def gearsJoinSpec : ChangeSpec := { name := "gearsJoin", fn := fun _ => fun
  | [d1, d2] => { results := [.lit (.bool true)], args := [d1, d2] }
  | _ => none }
def gearsJoinRow : OpenClaim := { program := "ytheifigkclegdaa", sum := "cb127d8b3c2b3d524f440316b8da137e89e7be21b4c2efb62d652e52282a3cd8", func := "millrind/millrindlaw07.GearsJoin", spec := "gearsJoin", unfollowed := true, recurses := true, apart := false }
def GearsJoinSaid : Prop := gearsJoinRow.holds Try.pinned (OpenSpec.ofChange gearsJoinSpec)

/-- ITS FALSE NEIGHBOUR: 'it returns false'. Refute it at one input. -/
def gearsJoinWrong : ChangeSpec := { name := "gearsJoin", fn := fun _ => fun
  | [d1, d2] => { results := [.lit (.bool false)], args := [d1, d2] }
  | _ => none }
def GearsJoinWrongFalsely : Prop := gearsJoinRow.holds Try.pinned (OpenSpec.ofChange gearsJoinWrong)

/-- 'millrindlaw07.GearsTimes': WHATEVER THE INPUT: true; the input reads as it did. -/
def gearsTimesSpec : ChangeSpec := { name := "gearsTimes", fn := fun _ => fun
  | [d1, d2, d3, d4, d5] => { results := [.lit (.bool true)], args := [d1, d2, d3, d4, d5] }
  | _ => none }
def gearsTimesRow : OpenClaim := { program := "ytheifigkclegdaa", sum := "cb127d8b3c2b3d524f440316b8da137e89e7be21b4c2efb62d652e52282a3cd8", func := "millrind/millrindlaw07.GearsTimes", spec := "gearsTimes", unfollowed := true, recurses := true, apart := false }
def GearsTimesSaid : Prop := gearsTimesRow.holds Try.pinned (OpenSpec.ofChange gearsTimesSpec)

/-- ITS FALSE NEIGHBOUR: 'it returns false'. Refute it at one input. -/
def gearsTimesWrong : ChangeSpec := { name := "gearsTimes", fn := fun _ => fun
  | [d1, d2, d3, d4, d5] => { results := [.lit (.bool false)], args := [d1, d2, d3, d4, d5] }
  | _ => none }
def GearsTimesWrongFalsely : Prop := gearsTimesRow.holds Try.pinned (OpenSpec.ofChange gearsTimesWrong)

/-- 'millrindlaw07.GearsPlays': WHATEVER THE INPUT: true; the input reads as it did. -/
def gearsPlaysSpec : ChangeSpec := { name := "gearsPlays", fn := fun _ => fun
  | [d1, d2, d3] => { results := [.lit (.bool true)], args := [d1, d2, d3] }
  | _ => none }
def gearsPlaysRow : OpenClaim := { program := "ytheifigkclegdaa", sum := "cb127d8b3c2b3d524f440316b8da137e89e7be21b4c2efb62d652e52282a3cd8", func := "millrind/millrindlaw07.GearsPlays", spec := "gearsPlays", unfollowed := true, recurses := true, apart := false }
def GearsPlaysSaid : Prop := gearsPlaysRow.holds Try.pinned (OpenSpec.ofChange gearsPlaysSpec)

/-- ITS FALSE NEIGHBOUR: 'it returns false'. Refute it at one input. -/
def gearsPlaysWrong : ChangeSpec := { name := "gearsPlays", fn := fun _ => fun
  | [d1, d2, d3] => { results := [.lit (.bool false)], args := [d1, d2, d3] }
  | _ => none }
def GearsPlaysWrongFalsely : Prop := gearsPlaysRow.holds Try.pinned (OpenSpec.ofChange gearsPlaysWrong)

/-- 'millrindlaw07.GearsSectors': WHATEVER THE INPUT: true; the input reads as it did. -/
def gearsSectorsSpec : ChangeSpec := { name := "gearsSectors", fn := fun _ => fun
  | [d1, d2, d3] => { results := [.lit (.bool true)], args := [d1, d2, d3] }
  | _ => none }
def gearsSectorsRow : OpenClaim := { program := "ytheifigkclegdaa", sum := "cb127d8b3c2b3d524f440316b8da137e89e7be21b4c2efb62d652e52282a3cd8", func := "millrind/millrindlaw07.GearsSectors", spec := "gearsSectors", unfollowed := true, recurses := true, apart := false }
def GearsSectorsSaid : Prop := gearsSectorsRow.holds Try.pinned (OpenSpec.ofChange gearsSectorsSpec)

/-- ITS FALSE NEIGHBOUR: 'it returns false'. Refute it at one input. -/
def gearsSectorsWrong : ChangeSpec := { name := "gearsSectors", fn := fun _ => fun
  | [d1, d2, d3] => { results := [.lit (.bool false)], args := [d1, d2, d3] }
  | _ => none }
def GearsSectorsWrongFalsely : Prop := gearsSectorsRow.holds Try.pinned (OpenSpec.ofChange gearsSectorsWrong)

/-- 'millrindlaw07.GearsBell': WHATEVER THE INPUT: true; the input reads as it did. -/
def gearsBellSpec : ChangeSpec := { name := "gearsBell", fn := fun _ => fun
  | [d1, d2, d3] => { results := [.lit (.bool true)], args := [d1, d2, d3] }
  | _ => none }
def gearsBellRow : OpenClaim := { program := "ytheifigkclegdaa", sum := "cb127d8b3c2b3d524f440316b8da137e89e7be21b4c2efb62d652e52282a3cd8", func := "millrind/millrindlaw07.GearsBell", spec := "gearsBell", unfollowed := true, recurses := true, apart := false }
def GearsBellSaid : Prop := gearsBellRow.holds Try.pinned (OpenSpec.ofChange gearsBellSpec)

/-- ITS FALSE NEIGHBOUR: 'it returns false'. Refute it at one input. -/
def gearsBellWrong : ChangeSpec := { name := "gearsBell", fn := fun _ => fun
  | [d1, d2, d3] => { results := [.lit (.bool false)], args := [d1, d2, d3] }
  | _ => none }
def GearsBellWrongFalsely : Prop := gearsBellRow.holds Try.pinned (OpenSpec.ofChange gearsBellWrong)

/-- 'millrindlaw07.GearsOrder': WHATEVER THE INPUT: true; the input reads as it did. -/
def gearsOrderSpec : ChangeSpec := { name := "gearsOrder", fn := fun _ => fun
  | [d1, d2, d3] => { results := [.lit (.bool true)], args := [d1, d2, d3] }
  | _ => none }
def gearsOrderRow : OpenClaim := { program := "ytheifigkclegdaa", sum := "cb127d8b3c2b3d524f440316b8da137e89e7be21b4c2efb62d652e52282a3cd8", func := "millrind/millrindlaw07.GearsOrder", spec := "gearsOrder", unfollowed := true, recurses := true, apart := false }
def GearsOrderSaid : Prop := gearsOrderRow.holds Try.pinned (OpenSpec.ofChange gearsOrderSpec)

/-- ITS FALSE NEIGHBOUR: 'it returns false'. Refute it at one input. -/
def gearsOrderWrong : ChangeSpec := { name := "gearsOrder", fn := fun _ => fun
  | [d1, d2, d3] => { results := [.lit (.bool false)], args := [d1, d2, d3] }
  | _ => none }
def GearsOrderWrongFalsely : Prop := gearsOrderRow.holds Try.pinned (OpenSpec.ofChange gearsOrderWrong)

/-- 'millrindlaw07.GearsRatios': WHATEVER THE INPUT: true; the input reads as it did. -/
def gearsRatiosSpec : ChangeSpec := { name := "gearsRatios", fn := fun _ => fun
  | [d1, d2, d3, d4] => { results := [.lit (.bool true)], args := [d1, d2, d3, d4] }
  | _ => none }
def gearsRatiosRow : OpenClaim := { program := "ytheifigkclegdaa", sum := "cb127d8b3c2b3d524f440316b8da137e89e7be21b4c2efb62d652e52282a3cd8", func := "millrind/millrindlaw07.GearsRatios", spec := "gearsRatios", unfollowed := true, recurses := true, apart := false }
def GearsRatiosSaid : Prop := gearsRatiosRow.holds Try.pinned (OpenSpec.ofChange gearsRatiosSpec)

/-- ITS FALSE NEIGHBOUR: 'it returns false'. Refute it at one input. -/
def gearsRatiosWrong : ChangeSpec := { name := "gearsRatios", fn := fun _ => fun
  | [d1, d2, d3, d4] => { results := [.lit (.bool false)], args := [d1, d2, d3, d4] }
  | _ => none }
def GearsRatiosWrongFalsely : Prop := gearsRatiosRow.holds Try.pinned (OpenSpec.ofChange gearsRatiosWrong)

/- THE SECOND FORM. 'bulk': how many values and letters a reading holds, each counted each time it is reached (what is shared counts as often as it is met; a slice's spare places count too). A statement '..UptoSaid' is the law's where the arguments, and the package variables that the reading takes, are together of bulk at most 1048576: NARROWER than '..Said'. Prove '..Said' where nothing that the law and all that it calls make is longer than what came in: it says more and counts as full. Else prove '..UptoSaid'. A law counts once. -/
mutual
def uptoBulk {H : Type} : DataW H → Nat
  | .lit (.string bytes) => bytes.length + 1
  | .lit _ => 1
  | .nil => 1
  | .ptr d => uptoBulk d + 1
  | .slice elems spare => uptoBulkAll elems + uptoBulkAll spare + 1
  | .agg parts => uptoBulkAll parts + 1
  | .iface _ d => uptoBulk d + 1
  | .map entries => uptoBulkEntries entries + 1
  | .held _ => 1
def uptoBulkAll {H : Type} : List (DataW H) → Nat
  | [] => 0
  | d :: r => uptoBulk d + uptoBulkAll r
def uptoBulkEntries {H : Type} : List (Lit × DataW H) → Nat
  | [] => 0
  | x :: r => uptoBulkEntry x + uptoBulkEntries r
def uptoBulkEntry {H : Type} : Lit × DataW H → Nat
  | (.string bytes, d) => bytes.length + uptoBulk d + 1
  | (_, d) => uptoBulk d + 1
 end
def uptoSmall : (H : Type) → List (DataW H) → Bool := fun _ ds => decide (uptoBulkAll ds ≤ 1048576)
def OpenSpec.upto (s : _root_.Go.ChangeSpec) : _root_.Go.OpenSpec := { _root_.Go.OpenSpec.ofChange s with cond := some uptoSmall }

/-- 'millrindlaw07.GearsStands', WHERE WHAT IT READS IS OF BULK AT MOST 1048576: true; the input reads as it did. -/
def gearsStandsUptoRow : OpenClaim := { program := "ytheifigkclegdaa", sum := "cb127d8b3c2b3d524f440316b8da137e89e7be21b4c2efb62d652e52282a3cd8", func := "millrind/millrindlaw07.GearsStands", spec := "gearsStands", unfollowed := true, recurses := true, apart := false, narrowed := true }
def GearsStandsUptoSaid : Prop := gearsStandsUptoRow.holds Try.pinned (OpenSpec.upto gearsStandsSpec)

/-- 'millrindlaw07.GearsAgain', WHERE WHAT IT READS IS OF BULK AT MOST 1048576: true; the input reads as it did. -/
def gearsAgainUptoRow : OpenClaim := { program := "ytheifigkclegdaa", sum := "cb127d8b3c2b3d524f440316b8da137e89e7be21b4c2efb62d652e52282a3cd8", func := "millrind/millrindlaw07.GearsAgain", spec := "gearsAgain", unfollowed := true, recurses := true, apart := false, narrowed := true }
def GearsAgainUptoSaid : Prop := gearsAgainUptoRow.holds Try.pinned (OpenSpec.upto gearsAgainSpec)

/-- 'millrindlaw07.GearsPlay', WHERE WHAT IT READS IS OF BULK AT MOST 1048576: true; the input reads as it did. -/
def gearsPlayUptoRow : OpenClaim := { program := "ytheifigkclegdaa", sum := "cb127d8b3c2b3d524f440316b8da137e89e7be21b4c2efb62d652e52282a3cd8", func := "millrind/millrindlaw07.GearsPlay", spec := "gearsPlay", unfollowed := true, recurses := true, apart := false, narrowed := true }
def GearsPlayUptoSaid : Prop := gearsPlayUptoRow.holds Try.pinned (OpenSpec.upto gearsPlaySpec)

/-- 'millrindlaw07.GearsTrains', WHERE WHAT IT READS IS OF BULK AT MOST 1048576: true; the input reads as it did. -/
def gearsTrainsUptoRow : OpenClaim := { program := "ytheifigkclegdaa", sum := "cb127d8b3c2b3d524f440316b8da137e89e7be21b4c2efb62d652e52282a3cd8", func := "millrind/millrindlaw07.GearsTrains", spec := "gearsTrains", unfollowed := true, recurses := true, apart := false, narrowed := true }
def GearsTrainsUptoSaid : Prop := gearsTrainsUptoRow.holds Try.pinned (OpenSpec.upto gearsTrainsSpec)

/-- 'millrindlaw07.GearsMeets', WHERE WHAT IT READS IS OF BULK AT MOST 1048576: true; the input reads as it did. -/
def gearsMeetsUptoRow : OpenClaim := { program := "ytheifigkclegdaa", sum := "cb127d8b3c2b3d524f440316b8da137e89e7be21b4c2efb62d652e52282a3cd8", func := "millrind/millrindlaw07.GearsMeets", spec := "gearsMeets", unfollowed := true, recurses := true, apart := false, narrowed := true }
def GearsMeetsUptoSaid : Prop := gearsMeetsUptoRow.holds Try.pinned (OpenSpec.upto gearsMeetsSpec)

/-- 'millrindlaw07.GearsField', WHERE WHAT IT READS IS OF BULK AT MOST 1048576: true; the input reads as it did. -/
def gearsFieldUptoRow : OpenClaim := { program := "ytheifigkclegdaa", sum := "cb127d8b3c2b3d524f440316b8da137e89e7be21b4c2efb62d652e52282a3cd8", func := "millrind/millrindlaw07.GearsField", spec := "gearsField", unfollowed := true, recurses := true, apart := false, narrowed := true }
def GearsFieldUptoSaid : Prop := gearsFieldUptoRow.holds Try.pinned (OpenSpec.upto gearsFieldSpec)

/-- 'millrindlaw07.GearsJoin', WHERE WHAT IT READS IS OF BULK AT MOST 1048576: true; the input reads as it did. -/
def gearsJoinUptoRow : OpenClaim := { program := "ytheifigkclegdaa", sum := "cb127d8b3c2b3d524f440316b8da137e89e7be21b4c2efb62d652e52282a3cd8", func := "millrind/millrindlaw07.GearsJoin", spec := "gearsJoin", unfollowed := true, recurses := true, apart := false, narrowed := true }
def GearsJoinUptoSaid : Prop := gearsJoinUptoRow.holds Try.pinned (OpenSpec.upto gearsJoinSpec)

/-- 'millrindlaw07.GearsTimes', WHERE WHAT IT READS IS OF BULK AT MOST 1048576: true; the input reads as it did. -/
def gearsTimesUptoRow : OpenClaim := { program := "ytheifigkclegdaa", sum := "cb127d8b3c2b3d524f440316b8da137e89e7be21b4c2efb62d652e52282a3cd8", func := "millrind/millrindlaw07.GearsTimes", spec := "gearsTimes", unfollowed := true, recurses := true, apart := false, narrowed := true }
def GearsTimesUptoSaid : Prop := gearsTimesUptoRow.holds Try.pinned (OpenSpec.upto gearsTimesSpec)

/-- 'millrindlaw07.GearsPlays', WHERE WHAT IT READS IS OF BULK AT MOST 1048576: true; the input reads as it did. -/
def gearsPlaysUptoRow : OpenClaim := { program := "ytheifigkclegdaa", sum := "cb127d8b3c2b3d524f440316b8da137e89e7be21b4c2efb62d652e52282a3cd8", func := "millrind/millrindlaw07.GearsPlays", spec := "gearsPlays", unfollowed := true, recurses := true, apart := false, narrowed := true }
def GearsPlaysUptoSaid : Prop := gearsPlaysUptoRow.holds Try.pinned (OpenSpec.upto gearsPlaysSpec)

/-- 'millrindlaw07.GearsSectors', WHERE WHAT IT READS IS OF BULK AT MOST 1048576: true; the input reads as it did. -/
def gearsSectorsUptoRow : OpenClaim := { program := "ytheifigkclegdaa", sum := "cb127d8b3c2b3d524f440316b8da137e89e7be21b4c2efb62d652e52282a3cd8", func := "millrind/millrindlaw07.GearsSectors", spec := "gearsSectors", unfollowed := true, recurses := true, apart := false, narrowed := true }
def GearsSectorsUptoSaid : Prop := gearsSectorsUptoRow.holds Try.pinned (OpenSpec.upto gearsSectorsSpec)

/-- 'millrindlaw07.GearsBell', WHERE WHAT IT READS IS OF BULK AT MOST 1048576: true; the input reads as it did. -/
def gearsBellUptoRow : OpenClaim := { program := "ytheifigkclegdaa", sum := "cb127d8b3c2b3d524f440316b8da137e89e7be21b4c2efb62d652e52282a3cd8", func := "millrind/millrindlaw07.GearsBell", spec := "gearsBell", unfollowed := true, recurses := true, apart := false, narrowed := true }
def GearsBellUptoSaid : Prop := gearsBellUptoRow.holds Try.pinned (OpenSpec.upto gearsBellSpec)

/-- 'millrindlaw07.GearsOrder', WHERE WHAT IT READS IS OF BULK AT MOST 1048576: true; the input reads as it did. -/
def gearsOrderUptoRow : OpenClaim := { program := "ytheifigkclegdaa", sum := "cb127d8b3c2b3d524f440316b8da137e89e7be21b4c2efb62d652e52282a3cd8", func := "millrind/millrindlaw07.GearsOrder", spec := "gearsOrder", unfollowed := true, recurses := true, apart := false, narrowed := true }
def GearsOrderUptoSaid : Prop := gearsOrderUptoRow.holds Try.pinned (OpenSpec.upto gearsOrderSpec)

/-- 'millrindlaw07.GearsRatios', WHERE WHAT IT READS IS OF BULK AT MOST 1048576: true; the input reads as it did. -/
def gearsRatiosUptoRow : OpenClaim := { program := "ytheifigkclegdaa", sum := "cb127d8b3c2b3d524f440316b8da137e89e7be21b4c2efb62d652e52282a3cd8", func := "millrind/millrindlaw07.GearsRatios", spec := "gearsRatios", unfollowed := true, recurses := true, apart := false, narrowed := true }
def GearsRatiosUptoSaid : Prop := gearsRatiosUptoRow.holds Try.pinned (OpenSpec.upto gearsRatiosSpec)

end Rows
end Go.Proofs.Ytheifigkclegdaa
