/-
  What is proved: the contracts of gears.runnerOf and Where.
-/
import Derived.Test.YtheifigkclegdaaPlay
import Derived.Test.YtheifigkclegdaaSpan
namespace Go.Proofs.Ytheifigkclegdaa
open Go.RowKit
attribute [local go_sem] Res.val

theorem playGo_bounds : ∀ (L : List Mesh) (p : Res), p.num ≤ 1000000000 ∧ 1 ≤ p.den ∧ p.den ≤ 1000000000 → (playGo L p).err = 0 → (playGo L p).num ≤ 1000000000 ∧ 1 ≤ (playGo L p).den ∧ (playGo L p).den ≤ 1000000000
  | [], _, hp, _ => hp
  | m :: L, p, hp, h => by
    unfold playGo at h ⊢
    by_cases he : (playStep p m).err = 0
    · rw [if_pos he] at h ⊢
      refine playGo_bounds L _ ?_ h
      unfold playStep at he ⊢
      split at he
      · rename_i h1
        rw [if_pos h1]
        exact plus_bounds he
      · cases he
    · rw [if_neg he] at h
      exact absurd h he

/-- The last shaft's turns. -/
def lastR (L : List Mesh) : Res := shaftR L L.length
def runnerE (L : List Mesh) : Nat := if (lastR L).err = 0 then (playGo L ⟨0, 1, 0⟩).err else (lastR L).err

def RunnerPost (L : List Mesh) (sec : Nat) (w : World) (e : Ending) (w' : World) : Prop :=
  Below w.heap.size w w' ∧ ((runnerE L ≠ 0 ∧ e = .returned (.tuple #[.pointer none, .int .i64 (runnerE L : Nat)])) ∨
    (runnerE L = 0 ∧ ∃ g, e = .returned (.tuple #[.pointer (some ⟨g, 0, none⟩), .int .i64 0]) ∧ w.heap.size ≤ g ∧
      Bk w' g 102 #[.int .i64 (lastR L).num, .int .i64 (lastR L).den, .int .i64 (playGo L ⟨0, 1, 0⟩).num, .int .i64 (playGo L ⟨0, 1, 0⟩).den, .int .i64 sec]))

set_option maxRecDepth 100000 in
set_option maxHeartbeats 4000000 in
theorem runner_any (b off c sec : Nat) (L : List Mesh) (w : World) (hL : RowAt w (some ⟨b, off, none⟩) (meshCells L)) (hc : L.length ≤ c) (hcm : c ≤ 9223372036854775807) (hok : okTrain L = true) :
    Calls Try.prog 69 #[.agg #[.slice (some ⟨b, off, none⟩) L.length c], .int .i64 sec] w (RunnerPost L sec w) := by
  obtain ⟨k1, k2, _⟩ := ok_train hok
  have HS : Hid (∀ W, RowAt W (some ⟨b, off, none⟩) (meshCells L) → Calls Try.prog 90 #[.agg #[.slice (some ⟨b, off, none⟩) L.length c], .int .i64 L.length] W fun e w' => e = .returned (lastR L).val ∧ Below W.heap.size W w') :=
    fun W hW => shaft_any b off c L.length L W hW hok hc hcm (Nat.le_refl _)
  have HP : Hid (∀ W, RowAt W (some ⟨b, off, none⟩) (meshCells L) → Calls Try.prog 24 #[.agg #[.slice (some ⟨b, off, none⟩) L.length c]] W fun e w' => e = .returned (playGo L ⟨0, 1, 0⟩).val ∧ Below W.heap.size W w') :=
    fun W hW => play_ok b off c L W hW hc hcm hok
  have HE : Hid (∀ r p : Res, lastR L = r → playGo L ⟨0, 1, 0⟩ = p → runnerE L = if r.err = 0 then p.err else r.err) := by
    rintro r p rfl rfl
    rfl
  have HL := Lib.hid hL
  clear hL hok
  unfold RunnerPost
  generalize runnerE L = E at *
  have HE2 : Hid (E = if (lastR L).err = 0 then (playGo L ⟨0, 1, 0⟩).err else (lastR L).err) := HE.out _ _ rfl rfl
  clear HE
  generalize lastR L = r at *
  generalize playGo L ⟨0, 1, 0⟩ = p at *
  obtain ⟨rn, rd, re⟩ := r
  obtain ⟨pn, pd, pe⟩ := p
  simp only at HE2
  go_enter Try.func69, Try.ntmps69
  go_wp2_with fail
  refine (HS.out _ (HL.out.alloc _)).mono ?_
  rintro e w1 ⟨rfl, hb1⟩
  have T : Bk w1 w.heap.size 24 #[.slice (some ⟨b, off, none⟩) L.length c] := (bk_last rfl).keep hb1
  have hB1 : Below w.heap.size w w1 := ((Below.refl _ _).alloc (Nat.le_refl _) _).trans (hb1.mono (by simp))
  have hz1 := hb1.size
  simp at hz1
  clear hb1
  have t0 := T.cell 0
  simp at t0
  by_cases hr : re = 0
  · subst hr
    have hEq := HE2.out
    rw [if_pos rfl] at hEq
    subst hEq
    have hlt1 := T.lt
    go_wp2_with fail
    refine (HP.out _ ((HL.out.below hB1).alloc _)).mono ?_
    rintro e w2 ⟨rfl, hb2⟩
    have R : Bk w2 w1.heap.size 42 #[.int .i64 rn, .int .i64 rd] := (bk_last rfl).keep hb2
    have hB2 : Below w.heap.size w w2 := (hB1.alloc hB1.size _).trans (hb2.mono (by simp; omega))
    have hz2 := hB2.size
    clear hb2 t0 T
    by_cases hp : E = 0
    · subst hp
      go_wp2
      have R2 := R.alloc (Obj.cells #[Value.int IntKind.i64 pn, Value.int IntKind.i64 pd] 42)
      have Q2 : Bk (w2.alloc (Obj.cells #[Value.int IntKind.i64 pn, Value.int IntKind.i64 pd] 42)) w2.heap.size 42 #[.int .i64 pn, .int .i64 pd] := bk_last rfl
      have hB3 := hB2.alloc hB2.size (Obj.cells #[Value.int IntKind.i64 pn, Value.int IntKind.i64 pd] 42)
      generalize w2.alloc (Obj.cells #[Value.int IntKind.i64 pn, Value.int IntKind.i64 pd] 42) = V at *
      have r0 := R2.cell 0
      have r1 := R2.cell 1
      have q0 := Q2.cell 0
      have q1 := Q2.cell 1
      simp at r0 r1 q0 q1
      refine wp_region_extmix 6 (by kernel_rfl) (by kernel_rfl) (fun _ _ d _ _ h => by cases d <;> exact h) ?_
      simp only [List.take_succ_cons, List.take_zero, List.drop_succ_cons, List.drop_zero]
      have F1 := fun x : Ext V => keepc x.bel r0
      have F2 := fun x : Ext V => keepc x.bel r1
      have F3 := fun x : Ext V => keepc x.bel q0
      have F4 := fun x : Ext V => keepc x.bel q1
      clear r0 r1 q0 q1
      repeat (go_big_quiet_step ((go_at_call 72; exact ext_of (of_any _ _ _))))
      refine wpQuiet_nil ?_
      rintro _ ⟨x, rfl⟩
      clear F1 F2 F3 F4
      have hb3 := x.bel
      generalize x.w = w3 at hb3 ⊢
      have hB4 := hB3.trans (hb3.mono hB3.size)
      clear hb3
      go_wp2
      go_ret2
      exact ⟨hB4.alloc hB4.size _, w3.heap.size, rfl, hB4.size, bk_last rfl⟩
    · have hp1 : ((E : Int) == 0) = false := by simp; omega
      go_wp2_with fail
      go_ret2
      exact ⟨hB2.alloc hB2.size _, .inl ⟨hp, rfl⟩⟩
  · have hEq := HE2.out
    rw [if_neg hr] at hEq
    subst hEq
    have hr1 : ((E : Int) == 0) = false := by simp; omega
    go_wp2_with fail
    go_ret2
    exact ⟨hB1.alloc hB1.size _, .inl ⟨hr, rfl⟩⟩

end Go.Proofs.Ytheifigkclegdaa
