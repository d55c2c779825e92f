/-
  What is proved: the walk of GearsStands.
-/
import Derived.Test.YtheifigkclegdaaShort
import Derived.Test.YtheifigkclegdaaRPeriod
namespace Go.Proofs.Ytheifigkclegdaa
open Go.RowKit

def standsI (L : List Mesh) (t k : Nat) : List Int := (List.range k).flatMap fun i => [(standV (shaftR L i) t ((drs L).getD i 1) : Int), (standV (shaftR L (i + 1)) t ((dns L).getD i 1) : Int)]
theorem standsI_cells (L : List Mesh) (t k : Nat) : standsCells L t k = intCells (standsI L t k) := by
  simp [standsCells, standsI, intCells, List.map_flatMap]
theorem standsI_len (L : List Mesh) (t k : Nat) : (standsI L t k).length = 2 * k := by
  induction k with
  | zero => simp [standsI]
  | succ k ih =>
    have h : standsI L t (k + 1) = standsI L t k ++ [(standV (shaftR L k) t ((drs L).getD k 1) : Int), (standV (shaftR L (k + 1)) t ((dns L).getD k 1) : Int)] := by
      unfold standsI
      rw [List.range_succ, List.flatMap_append]
      rfl
    rw [h, List.length_append, ih]
    simp
    omega

def shaftsB (L : List Mesh) : Bool := (List.range (L.length + 1)).all fun i => (shaftR L i).err == 0
theorem shaftsB_ok (L : List Mesh) : shaftsB L = true ↔ shaftsOK L (L.length + 1) := by
  simp [shaftsB, shaftsOK]

/-- What Stands returns. -/
def standsR (L : List Mesh) (t : Int) : List Int × Int :=
  if askedR L t = 0 then (if shaftsB L then (standsI L t.toNat L.length, 0) else ([], 2)) else ([], askedR L t)

theorem StandsPost.norm {L : List Mesh} {t : Int} {w w' : World} {e : Ending} (h : StandsPost L t w e w') :
    ∃ v, e = .returned (.tuple #[v, .int .i64 (standsR L t).2]) ∧ w'.ownsRow w.heap.size 3 1 v (standsR L t).1.length (intCells (standsR L t).1) ∧ Below w.heap.size w w' := by
  obtain ⟨hb, ⟨h1, h2⟩ | ⟨h1, h2, h3⟩ | ⟨h1, h2, v, h3, h4⟩⟩ := h
  · have hR : standsR L t = ([], askedR L t) := by rw [standsR, if_neg h1]
    rw [hR]
    exact ⟨_, h2, World.ownsRow_nil _ _ _ _, hb⟩
  · have hR : standsR L t = ([], 2) := by rw [standsR, if_pos h1, if_neg (fun h => h2 ((shaftsB_ok L).1 h))]
    rw [hR]
    exact ⟨_, h3, World.ownsRow_nil _ _ _ _, hb⟩
  · have hR : standsR L t = (standsI L t.toNat L.length, 0) := by rw [standsR, if_pos h1, if_pos ((shaftsB_ok L).2 h2)]
    rw [hR]
    rw [standsI_cells] at h4
    exact ⟨_, h3, by rw [standsI_len]; exact h4, hb⟩

/-- A call that returns a new list of ints and an error, where the train L lies at A. -/
def RetL (A : Option Addr) (L : List Mesh) (f : FuncId) (args : Array Value) (xs : List Int) (e0 : Int) : Prop := ∀ W : World, RowAt W A (meshCells L) → Calls Try.prog f args W fun e w' => ∃ v, e = .returned (.tuple #[v, .int .i64 e0]) ∧ w'.ownsRow W.heap.size 3 1 v xs.length (intCells xs) ∧ Below W.heap.size W w'

set_option maxRecDepth 100000 in
set_option maxHeartbeats 16000000 in
theorem stands_core (A : Option Addr) (c : Nat) (L : List Mesh) (t : Int) (xs : List Int) (e0 : Int) (pe : Int × Int) (w : World) (hrow : RowAt w A (meshCells L)) (hs : L.length ≤ 100) (hxs : xs.length ≤ 9223372036854775807)
    (h1 : Hid (RetL A L 18 #[.agg #[.slice A L.length c], .int .i64 t] xs e0)) (h2 : Hid (RetL A L 19 #[.agg #[.slice A L.length c], .int .i64 t] xs e0))
    (h3 : Hid (RetR A L 20 #[.agg #[.slice A L.length c]] (pairV pe))) (h4 : Hid (RetR A L 21 #[.agg #[.slice A L.length c]] (pairV pe))) :
    Calls Try.prog 3 #[.agg #[.slice A L.length c], .int .i64 t] w fun e w' => e = .returned (.bool true) ∧ Below w.heap.size w w' := by
  obtain ⟨p1, p2⟩ := pe
  go_enter Try.func3, Try.ntmps3
  go_wp2_with fail
  refine (awake_any _).mono ?_
  rintro e' w0 ⟨rfl, hb0⟩
  have X : Bk w0 w.heap.size 24 #[.slice A L.length c] := (bk_last rfl).keep hb0
  replace hrow := (hrow.alloc _).below hb0
  have hB0 : Below w.heap.size w w0 := ((Below.refl w.heap.size w).alloc (Nat.le_refl _) _).trans (hb0.mono (by simp <;> omega))
  clear hb0
  have Xc0 := X.cell 0
  simp at Xc0
  have Xl := X.lt
  go_wp2_with fail
  refine (short_true A L.length c _ hs).mono ?_
  rintro e' w1 ⟨rfl, hb1⟩
  replace X := X.keep hb1
  replace hrow := hrow.below hb1
  have hB1 := hB0.trans (hb1.mono hB0.size)
  clear Xc0 Xl
  clear hb1 hB0
  have Xc0 := X.cell 0
  simp at Xc0
  have Xl := X.lt
  go_wp2_with fail
  refine (h1.out _ hrow).mono ?_
  rintro e' w2 ⟨v1, rfl, ho1, hb2⟩
  replace X := X.keep hb2
  replace hrow := hrow.below hb2
  have hB2 := hB1.trans (hb2.mono hB1.size)
  obtain ⟨A1, c1, rfl, _, _, _⟩ := own_form ho1
  clear Xc0 Xl
  clear hb2 hB1
  have Xc0 := X.cell 0
  simp at Xc0
  have Xl := X.lt
  go_wp2_with fail
  refine (h2.out _ hrow).mono ?_
  rintro e' w3 ⟨v2, rfl, ho2, hb3⟩
  replace X := X.keep hb3
  replace hrow := hrow.below hb3
  replace ho1 := own_keep ho1 hb3
  have hB3 := hB2.trans (hb3.mono hB2.size)
  obtain ⟨A2, c2, rfl, _, _, _⟩ := own_form ho2
  clear Xc0 Xl
  clear hb3 hB2
  have Xc0 := X.cell 0
  simp at Xc0
  have Xl := X.lt
  go_wp2_with fail
  refine (h3.out _ hrow).mono ?_
  rintro e' w4 ⟨rfl, hb4⟩
  replace X := X.keep hb4
  replace hrow := hrow.below hb4
  replace ho1 := own_keep ho1 hb4
  replace ho2 := own_keep ho2 hb4
  have hB4 := hB3.trans (hb4.mono hB3.size)
  clear Xc0 Xl
  clear hb4 hB3
  have Xc0 := X.cell 0
  simp at Xc0
  have Xl := X.lt
  unfold pairV
  go_wp2_with fail
  refine (h4.out _ hrow).mono ?_
  rintro e' w5 ⟨rfl, hb5⟩
  replace X := X.keep hb5
  replace hrow := hrow.below hb5
  replace ho1 := own_keep ho1 hb5
  replace ho2 := own_keep ho2 hb5
  have hB5 := hB4.trans (hb5.mono hB4.size)
  clear Xc0 Xl
  clear hb5 hB4
  obtain ⟨_, _, e1, _, ra, _⟩ := own_form ho1
  injection e1 with e1 _ e1'
  subst e1 e1'
  obtain ⟨_, _, e2, _, rb, _⟩ := own_form ho2
  injection e2 with e2 _ e2'
  subst e2 e2'
  unfold pairV
  go_wp2_with fail
  refine (sameInts_any A1 A2 c1 c2 xs xs _ ra rb hxs hxs).mono ?_
  rintro e' wz ⟨rfl, nz, rfl⟩
  simp only [decide_true]
  go_wp2_with fail
  go_ret
  exact ⟨rfl, below_drewN hB5 _⟩


theorem stands_law (A : Option Addr) (c : Nat) (L : List Mesh) (t : Int) (w : World) (hrow : RowAt w A (meshCells L)) (hc : L.length ≤ c) (hcm : c ≤ 9223372036854775807) :
    Calls Try.prog 3 #[.agg #[.slice A L.length c], .int .i64 t] w fun e w' => e = .returned (.bool true) ∧ Below w.heap.size w w' := by
  by_cases hs : L.length ≤ 100
  · refine stands_core A c L t (standsR L t).1 (standsR L t).2 (periodR L) w hrow hs ?_
      (fun W h => (stands_any A c L t W h hc hcm).mono fun _ _ h => h.norm) (fun W h => (rstands_any A c L t W h (by omega)).mono fun _ _ h => h.norm) (fun W h => period_any A c L W h hc hcm) (fun W h => rperiod_any A c L W h (by omega))
    unfold standsR
    split
    · split
      · simp only [standsI_len]; omega
      · simp
    · simp
  · go_enter Try.func3, Try.ntmps3
    go_wp2_with fail
    refine (awake_any _).mono ?_
    rintro e' w0 ⟨rfl, hb0⟩
    have X : Bk w0 w.heap.size 24 #[.slice A L.length c] := (bk_last rfl).keep hb0
    replace hrow := (hrow.alloc _).below hb0
    have hB0 : Below w.heap.size w w0 := ((Below.refl w.heap.size w).alloc (Nat.le_refl _) _).trans (hb0.mono (by simp <;> omega))
    clear hb0
    have Xc0 := X.cell 0
    simp at Xc0
    have Xl := X.lt
    go_wp2_with fail
    refine (short_false A L.length c _ hs).mono ?_
    rintro e' w1 ⟨rfl, hb1⟩
    replace X := X.keep hb1
    replace hrow := hrow.below hb1
    have hB1 := hB0.trans (hb1.mono hB0.size)
    clear Xc0 Xl
    clear hb1 hB0
    go_wp2
    go_ret
    exact ⟨rfl, hB1⟩

end Go.Proofs.Ytheifigkclegdaa
