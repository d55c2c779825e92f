/-
  What is proved: the contract of gears.shafts and of gears.asked.
-/
import Derived.Test.YtheifigkclegdaaShaft
namespace Go.Proofs.Ytheifigkclegdaa
open Go.RowKit
attribute [local go_sem] Res.val

theorem ratioInfo : (Try.prog.info? 42).map (fun i => (i.zero, i.size, i.bytes)) = some (some (.agg #[.int .i64 0, .int .i64 0]), 2, 16) := by kernel_rfl

theorem own_base {w : World} {base base' : Nat} {e : TypeId} {size : Nat} {v : Value} {n : Nat} {xs : List Value} (h : w.ownsRow base e size v n xs) (hb : base' ≤ base) : w.ownsRow base' e size v n xs := by
  refine ⟨h.1, ?_⟩
  rcases h.2 with h2 | ⟨g, cap, cur, hv, hg, r⟩
  · exact .inl h2
  · exact .inr ⟨g, cap, cur, hv, by omega, r⟩

theorem own_keep {w w1 : World} {base : Nat} {e : TypeId} {size : Nat} {v : Value} {n : Nat} {xs : List Value} (h : w.ownsRow base e size v n xs) (hb : Below w.heap.size w w1) : w1.ownsRow base e size v n xs := by
  refine ⟨h.1, ?_⟩
  rcases h.2 with h2 | ⟨g, cap, cur, hv, hg, hh, r⟩
  · exact .inl h2
  · exact .inr ⟨g, cap, cur, hv, hg, (hb.block g (Array.getElem?_eq_some_iff.1 hh).1).trans hh, r⟩

theorem shaftR_err (L : List Mesh) (i : Nat) : (shaftR L i).err = 0 ∨ shaftR L i = ⟨0, 0, 2⟩ := low_err _ _

/-- Whether the turns of all shafts up to k are not too large. -/
def shaftsOK (L : List Mesh) (k : Nat) : Prop := ∀ i, i < k → (shaftR L i).err = 0
def shaftCells (L : List Mesh) (k : Nat) : List Value := (List.range k).flatMap fun i => [.int .i64 (shaftR L i).num, .int .i64 (shaftR L i).den]
theorem shaftCells_succ (L : List Mesh) (k : Nat) : shaftCells L (k + 1) = shaftCells L k ++ [.int .i64 (shaftR L k).num, .int .i64 (shaftR L k).den] := by
  unfold shaftCells
  rw [List.range_succ, List.flatMap_append]
  rfl
theorem shaftCells_len (L : List Mesh) (k : Nat) : (shaftCells L k).length = k * 2 := by
  have h := flat_len (fun i => [Value.int .i64 (shaftR L i).num, .int .i64 (shaftR L i).den]) 2 (fun _ => rfl) (List.range k)
  rw [List.length_range] at h
  exact h

def ShaftsPost (L : List Mesh) (w : World) (e : Ending) (w' : World) : Prop :=
  Below w.heap.size w w' ∧ ((shaftsOK L (L.length + 1) ∧ ∃ v, e = .returned (.tuple #[v, .int .i64 0]) ∧ w'.ownsRow w.heap.size 42 2 v (L.length + 1) (shaftCells L (L.length + 1))) ∨
    (¬ shaftsOK L (L.length + 1) ∧ e = .returned (.tuple #[.slice none 0 0, .int .i64 2])))

set_option maxRecDepth 100000 in
set_option maxHeartbeats 2000000 in
theorem shafts_any (b off c : Nat) (L : List Mesh) (w : World) (hL : RowAt w (some ⟨b, off, none⟩) (meshCells L)) (hok : okTrain L = true) (hc : L.length ≤ c) (hcm : c ≤ 9223372036854775807) :
    Calls Try.prog 61 #[.agg #[.slice (some ⟨b, off, none⟩) L.length c]] w (ShaftsPost L w) := by
  obtain ⟨i0, hi0, hz0, hz1, hz2⟩ := info_parts ratioInfo
  obtain ⟨k1, k2, k3⟩ := ok_train hok
  clear k3
  have HL := Lib.hid (And.intro hL hok)
  clear hL hok
  go_enter Try.func61, Try.ntmps61
  go_wp2
  go_loopw [4, 12] (fun v i wr => ∃ k : Nat, k ≤ L.length + 1 ∧ i = .int .i64 k ∧ wr.ownsRow (w.heap.size + 1) 42 2 v k (shaftCells L k) ∧ Below w.heap.size w wr ∧ Bk wr w.heap.size 24 #[.slice (some ⟨b, off, none⟩) L.length c] ∧ Hid (shaftsOK L k)) (fun _ i _ => L.length + 1 - (intOf i).toNat)
  case atStart => exact ⟨0, Nat.zero_le _, rfl, World.ownsRow_nil _ _ _ _, (Below.refl _ _).alloc (Nat.le_refl _) _, bk_last rfl, fun i hi => absurd hi (by omega)⟩
  case round =>
    obtain ⟨k, hk, rfl, hown, hB, hT, hall⟩ := hrel
    have t0 := hT.cell 0
    simp at t0
    by_cases hlt : k < L.length + 1
    · go_wp2_with fail
      refine (shaft_any b off c k L _ (HL.out.1.below hB) HL.out.2 hc hcm (by omega)).mono ?_
      rintro e w1 ⟨rfl, hb1⟩
      have hz := hB.size
      have hzt := hT.lt
      have hB1 := hB.trans (hb1.mono hB.size)
      replace hT := hT.keep hb1
      replace hown := own_keep hown hb1
      have hz1' := hb1.size
      clear hb1 hB t0
      rcases shaftR_err L k with he | he
      · generalize hr : shaftR L k = r at *
        have HR := Lib.hid hr
        clear hr
        obtain ⟨rn, rd, re⟩ := r
        simp only at he
        subst he
        have E1 : k + 1 ≤ maxLen := by unfold maxLen; omega
        have E2 : (k + 1) * 16 ≤ 140737488355328 := by omega
        have E := Lib.hid (And.intro E1 E2)
        clear E1 E2
        go_wp2_with (at_builtin; refine wpList_append_own _ rfl _ _ 76 rfl (w.heap.size + 1) 42 i0 _ 2 16 Try.underlying76 hi0 hz0 hz1 hz2 rfl (by decide) _ _ _ rfl ((hown.alloc _).alloc _) ⟨w1.heap.size + 1, 0, none⟩ 1 1 [.int .i64 rn, .int .i64 rd] rfl rfl (two_at _ _ _ _ _ (by simp)) (by simp [Value.oneCell']) E.out.1 E.out.2 (by simp; omega) ?_; intro v' w2 hown' hg _)
        have hg' : ((w1.alloc (Obj.cells #[Value.int IntKind.i64 ↑rn, Value.int IntKind.i64 ↑rd] 42)).alloc (Obj.cells #[Value.int IntKind.i64 ↑rn, Value.int IntKind.i64 ↑rd] 42)).grownBy w2 u4.ownBlock := hg
        clear hg
        go_roundw
        case rel =>
          refine ⟨k + 1, by omega, by go_num, by rw [shaftCells_succ, HR.out]; exact hown', ((hB1.alloc hB1.size _).alloc (by have := hB1.size; simp; omega) _).grown hg' (by have := hB1.size; simp; omega) (fun g hg => by have := (hown.lt g hg).1; omega), ((hT.alloc _).alloc _).grown hg' (own_ne hown (by omega)), fun i hi => ?_⟩
          rcases Nat.lt_or_ge i k with h | h
          · exact hall.out i h
          · have : i = k := by omega
            subst this
            rw [HR.out]
        case measure => simp [intOf]; omega
      · go_wp2_with fail
        go_ret2
        exact ⟨hB1.alloc hB1.size _, .inr ⟨(fun h => by have := h k hlt; rw [he] at this; cases this), rfl⟩⟩
    · have : k = L.length + 1 := by omega
      subst this
      go_wp2
      go_ret2
      exact ⟨hB, .inl ⟨hall.out, _, rfl, own_base hown (by omega)⟩⟩

/-- The error of a train and a number of teeth. -/
def askedR (L : List Mesh) (t : Int) : Int := if okTrain L then (if inB t 0 1000000 then 0 else 1) else 70

set_option maxHeartbeats 1000000 in
theorem asked_any (A : Option Addr) (c : Nat) (L : List Mesh) (t : Int) (w : World) (hL : RowAt w A (meshCells L)) (hn : L.length ≤ 9223372036854775807) :
    Calls Try.prog 60 #[.agg #[.slice A L.length c], .int .i64 t] w fun e w' => e = .returned (.int .i64 (askedR L t)) ∧ Below w.heap.size w w' := by
  by_cases hok : okTrain L = true
  · by_cases ht : inB t 0 1000000 = true
    all_goals
      go_enter Try.func60, Try.ntmps60
      go_wp2_with (first | (go_at_call 33; refine (validTrain_any _ _ _ _ (hL.alloc _) hn).mono ?_; rintro e w1 ⟨rfl, hb1⟩) | (go_at_call 68; refine (within_any _ _ _ _).mono ?_; rintro e w' ⟨rfl, rfl⟩))
      go_ret
      exact ⟨ret_int (by simp [askedR, hok, ht]), ((Below.refl _ _).alloc (Nat.le_refl _) _).trans (hb1.mono (by simp))⟩
  · have hok' : okTrain L = false := by simpa using hok
    go_enter Try.func60, Try.ntmps60
    go_wp2_with (first | (go_at_call 33; refine (validTrain_any _ _ _ _ (hL.alloc _) hn).mono ?_; rintro e w1 ⟨rfl, hb1⟩) | (go_at_call 68; refine (within_any _ _ _ _).mono ?_; rintro e w' ⟨rfl, rfl⟩))
    go_ret
    exact ⟨ret_int (by simp [askedR, hok']), ((Below.refl _ _).alloc (Nat.le_refl _) _).trans (hb1.mono (by simp))⟩

end Go.Proofs.Ytheifigkclegdaa
