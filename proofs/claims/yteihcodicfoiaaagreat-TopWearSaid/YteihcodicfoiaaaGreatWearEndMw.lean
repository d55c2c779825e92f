/-
  What is proved: for every input the law TopWear returns true, and each argument reads afterwards as it read before: in each pass both stones lose as much on each ring.
  Conditions: those that the given statement Rows.TopWearSaid makes itself, and no other.
-/
import Derived.Test.YteihcodicfoiaaaGreatLawWMw
import Derived.Test.YteihcodicfoiaaaGreatMw53
import Derived.Test.YteihcodicfoiaaaGreatMw2
namespace Go.Proofs.YteihcodicfoiaaaGreat
open Go.ChangeShapes Go.WideShapes Go.ChangeAt Go.RowKit Go.Joins

set_option maxRecDepth 100000 in
theorem wear_lifted (os : Os) (started : os.Started) (H : Type) (enc : TypeId × Value → H) :
    ReturnsInHanded {} Tryz.checked os 3 .any (Rows.topWearSpec.pre6 enc Tryz.prog Tryz.f3 Rows.topWearRow.domain false) (Rows.topWearSpec.post enc Tryz.prog Tryz.f3 false true false false) := by
  refine returnsInHanded_of_change (C := Tryz.checked) Tryz.own started (by kernel_rfl) Tryz.func3
    (ChangeSpec.witness6 (enc := enc) (C := Tryz.checked) false ⟨#[], #[.agg #[.int .i64 0, .int .i64 0, .int .i64 0, .slice none 0 0, .int .i64 0, .int .i64 0, .int .i64 0, .slice none 0 0, .slice none 0 0, .int .i64 0, .int .i64 0, .slice none 0 0, .int .i64 0, .int .i64 0, .slice none 0 0, .slice none 0 0, .slice none 0 0, .slice none 0 0, .int .i64 0, .int .i64 0, .int .i64 0, .slice none 0 0, .slice none 0 0, .slice none 0 0, .slice none 0 0, .int .i64 0, .slice none 0 0, .int .i64 0], .slice none 0 0], []⟩ 8 (by kernel_rfl) (by kernel_rfl) (by kernel_rfl) (by kernel_rfl)) ?_
  intro W base args ds gs before hval0 hW _ _
  have hval : ∀ (j : Nat) t v, Tryz.f3.params[j]? = some t → args[j]? = some v → Value.okWide Tryz.prog W .any base t v := hval0
  have hW' := hW
  obtain ⟨p, q, hA0, hV, rfl, _, _⟩ := hW
  have hA : DataW.TrodAll enc Tryz.prog W 0 (fun _ => true) true Tryz.f3.params.toList args.toList ds p := hA0
  rw [Tryz.params3] at hA hval
  obtain ⟨v0, vs0, d0, ds0, p0, q0, e0, rfl, rfl, h0, r0⟩ := trodAll_cons hA
  obtain ⟨v1, vs1, d1, ds1, p1, q1, rfl, rfl, rfl, h1, r1⟩ := trodAll_cons r0
  obtain ⟨rfl, rfl, rfl⟩ := trodAll_nil r1
  obtain ⟨rfl, rfl⟩ := trodVars_none hV
  have ea : args = #[v0, v1] := by rw [← Array.toList_inj, e0]
  subst ea
  obtain ⟨b, z, rfl, hB, hr, hd, hrr, hdd⟩ := arg_base h0 (hval 0 41 _ rfl rfl)
  obtain ⟨A, c, l, rfl, hl, hn, hs⟩ := arg_notes h1 (hval 1 42 _ rfl rfl)
  refine (wear_any b z A c l W hB hl hn hs hr hd hrr hdd).mono fun e' W' ⟨he, hb⟩ => ?_
  subst he
  exact ⟨_, rfl, law_post Tryz.laidOut (by decide) rfl Tryz.underlying4 rfl rfl rfl rfl hW' hb⟩

theorem wear_holds : Rows.TopWearSaid :=
  OpenClaim.holds_of_wide 3 Tryz.f3 rfl rfl rfl rfl rfl rfl rfl ⟨rfl, rfl, rfl, rfl, rfl⟩ rfl rfl rfl rfl rfl (by kernel_rfl) Tryz.func3 (by kernel_rfl)
    (of_decide_eq_true (by kernel_rfl)) (by unfold Func.isWrapper; first | (rw [if_pos (by decide +kernel)]; kernel_rfl) | (rw [if_neg (by decide +kernel)]; exact ⟨rfl, rfl⟩))
    (fun os started H enc _ => wear_lifted os started H enc)

end Go.Proofs.YteihcodicfoiaaaGreat
