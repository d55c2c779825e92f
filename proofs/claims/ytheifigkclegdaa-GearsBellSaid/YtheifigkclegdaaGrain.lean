/-
  What is proved: contracts of the functions of grain that the law on the bell calls.
-/
import Derived.Test.YtheifigkclegdaaFeed
import Derived.Deep.RegionHeld3
namespace Go.Proofs.Ytheifigkclegdaa
open Go.RowKit

/-- A rule: lo ≤ n and n ≤ hi. -/
structure Rule where
  n : Int
  lo : Int
  hi : Int
def Rule.ok (r : Rule) : Bool := inB r.n r.lo r.hi
def ruleCells (R : List Rule) : List Value := R.flatMap fun r => [.int .i64 r.n, .int .i64 r.lo, .int .i64 r.hi, .func (.func 87) #[] #[]]
theorem ruleCells_len (R : List Rule) : (ruleCells R).length = R.length * 4 := flat_len _ 4 (fun _ => rfl) R

theorem RowAt.rule {w : World} {A : Option Addr} {R : List Rule} (h : RowAt w A (ruleCells R)) (h0 : 0 < R.length) :
    ∃ b off, A = some ⟨b, off, none⟩ ∧ b < w.heap.size ∧ ∀ k (hk : k < R.length), w.cell? ⟨b, off + k * 4, none⟩ = some (.int .i64 R[k].n) ∧ w.cell? ⟨b, off + k * 4 + 1, none⟩ = some (.int .i64 R[k].lo) ∧ w.cell? ⟨b, off + k * 4 + 2, none⟩ = some (.int .i64 R[k].hi) ∧ w.cell? ⟨b, off + k * 4 + 3, none⟩ = some (.func (.func 87) #[] #[]) := by
  obtain ⟨b, off, e, hb, hc⟩ := h (by rw [ruleCells_len]; omega)
  refine ⟨b, off, e, hb, fun k hk => ⟨?_, ?_, ?_, ?_⟩⟩
  · exact hc (k * 4) _ (by rw [← Nat.add_zero (k * 4)]; exact flat_get _ 4 (fun _ => rfl) (by omega) R k 0 hk (by omega))
  · exact hc (k * 4 + 1) _ (flat_get _ 4 (fun _ => rfl) (by omega) R k 1 hk (by omega))
  · exact hc (k * 4 + 2) _ (flat_get _ 4 (fun _ => rfl) (by omega) R k 2 hk (by omega))
  · exact hc (k * 4 + 3) _ (flat_get _ 4 (fun _ => rfl) (by omega) R k 3 hk (by omega))

set_option maxHeartbeats 400000 in
theorem badRule_any (x y z : Int) (w : World) :
    Calls Try.prog 95 #[.agg #[.int .i64 x, .int .i64 y, .int .i64 z, .func (.func 87) #[] #[]]] w fun e w' => e = .returned (.bool (!Rule.ok ⟨x, y, z⟩)) ∧ Below w.heap.size w w' := by
  go_enter Try.func95, Try.ntmps95
  go_wp2_with (go_at_call 87; refine (gwithin_any _ _ _ _).mono ?_; rintro e w' ⟨rfl, rfl⟩)
  all_goals
    go_ret
    exact ⟨rfl, (Below.refl _ _).alloc (Nat.le_refl _) _⟩

def badRuleAt (R : List Rule) : Int := match R.findIdx? (fun m => !m.ok) with | some i => i | none => -1
theorem badRuleAt_hit (R : List Rule) (k : Nat) (hk : k < R.length) (h : ∀ j (h : j < R.length), j < k → R[j].ok = true) (hb : R[k].ok = false) : badRuleAt R = k := by
  have e : R.findIdx? (fun m => !m.ok) = some k := by
    rw [List.findIdx?_eq_some_iff_getElem]
    exact ⟨hk, by simp [hb], fun j hj => by simp [h j (by omega) hj]⟩
  simp [badRuleAt, e]
theorem badRuleAt_none (R : List Rule) (h : ∀ j (h : j < R.length), j < R.length → R[j].ok = true) : badRuleAt R = -1 := by
  have e : R.findIdx? (fun m => !m.ok) = none := by
    rw [List.findIdx?_eq_none_iff]
    intro m hm
    obtain ⟨j, hj, rfl⟩ := List.getElem_of_mem hm
    simp [h j hj hj]
  simp [badRuleAt, e]
theorem badRuleAt_all (R : List Rule) : decide (badRuleAt R ≥ 0) = !R.all Rule.ok := by
  unfold badRuleAt
  cases e : R.findIdx? (fun m => !m.ok) with
  | none =>
    rw [List.findIdx?_eq_none_iff] at e
    have h : R.all Rule.ok = true := by rw [List.all_eq_true]; intro m hm; simpa using e m hm
    simp [h]
  | some i =>
    rw [List.findIdx?_eq_some_iff_getElem] at e
    obtain ⟨hi, h1, _⟩ := e
    have h : R.all Rule.ok = false := by
      rw [List.all_eq_false]
      exact ⟨R[i], List.getElem_mem hi, by simpa using h1⟩
    simp [h]

set_option maxHeartbeats 1000000 in
theorem indexRule_any (A : Option Addr) (c : Nat) (R : List Rule) (w : World) (hL : RowAt w A (ruleCells R)) (hn : R.length ≤ 9223372036854775807) :
    Calls Try.prog 97 #[.slice A R.length c, .func (.func 95) #[] #[]] w fun e w' => e = .returned (.int .i64 (badRuleAt R)) ∧ Below w.heap.size w w' := by
  go_enter Try.func97, Try.ntmps97
  go_wp2
  go_loopw [8] (fun i wr => ∃ k : Nat, k ≤ R.length ∧ i = .int .i64 k ∧ Hid (∀ j (h : j < R.length), j < k → R[j].ok = true) ∧ Below w.heap.size w wr) (fun i _ => R.length - (intOf i).toNat)
  case atStart => exact ⟨0, Nat.zero_le _, rfl, fun j _ h => absurd h (by omega), Below.refl _ _⟩
  case round =>
    obtain ⟨k, hk, rfl, hall, hB⟩ := hrel
    by_cases hlt : k < R.length
    · obtain ⟨b, off, hA, hb, hc⟩ := (hL.below hB).rule (by omega)
      obtain ⟨c0, c1, c2, c3⟩ := hc k hlt
      clear hc
      rw [hA]
      clear hA
      go_wp2_with (go_at_call 95; refine (badRule_any _ _ _ _).mono ?_; rintro e w1 ⟨rfl, hb1⟩)
      · have hbad : (!R[k].ok) = true := by assumption
        go_ret
        exact ⟨ret_int (badRuleAt_hit R k hlt hall.out (by simpa using hbad)).symm, hB.trans (hb1.mono hB.size)⟩
      · have hgood : (!R[k].ok) = false := by assumption
        go_roundw
        case rel =>
          refine ⟨k + 1, by omega, by go_num, fun j hj hjk => ?_, hB.trans (hb1.mono hB.size)⟩
          rcases Nat.lt_or_ge j k with h | h
          · exact hall.out j hj h
          · have : j = k := by omega
            subst this
            simpa using hgood
        case measure => simp [intOf]; omega
    · have : k = R.length := by omega
      subst this
      go_wp2
      go_ret
      exact ⟨ret_int (badRuleAt_none R hall.out).symm, hB⟩

set_option maxHeartbeats 400000 in
theorem anyRule_any (A : Option Addr) (c : Nat) (R : List Rule) (w : World) (hL : RowAt w A (ruleCells R)) (hn : R.length ≤ 9223372036854775807) :
    Calls Try.prog 94 #[.slice A R.length c, .func (.func 95) #[] #[]] w fun e w' => e = .returned (.bool (!R.all Rule.ok)) ∧ Below w.heap.size w w' := by
  go_enter Try.func94, Try.ntmps94
  go_wp2_with (go_at_call 97; refine (indexRule_any _ _ _ _ hL hn).mono ?_; rintro e w1 ⟨rfl, hb1⟩)
  go_ret
  exact ⟨ret_bool (badRuleAt_all R), hb1⟩

set_option maxHeartbeats 400000 in
theorem allRules_any (A : Option Addr) (c : Nat) (R : List Rule) (w : World) (hL : RowAt w A (ruleCells R)) (hn : R.length ≤ 9223372036854775807) :
    Calls Try.prog 86 #[.slice A R.length c] w fun e w' => e = .returned (.bool (R.all Rule.ok)) ∧ Below w.heap.size w w' := by
  go_enter Try.func86, Try.ntmps86
  go_wp2_with (go_at_call 94; refine (anyRule_any _ _ _ _ hL hn).mono ?_; rintro e w1 ⟨rfl, hb1⟩)
  all_goals
    go_ret
    exact ⟨ret_bool (by simp), hb1⟩

set_option maxRecDepth 100000 in
set_option maxHeartbeats 1000000 in
theorem gvalidFeed_any (h d k : Int) (w : World) :
    Calls Try.prog 49 #[.agg #[.int .i64 h, .int .i64 d, .int .i64 k]] w fun e w' => e = .returned (.bool (okFeed h d k)) ∧ Below w.heap.size w w' := by
  go_enter Try.func49, Try.ntmps49
  go_wp2_with fail
  have hR : RowAt ((w.alloc (Obj.cells #[Value.int IntKind.i64 h, Value.int IntKind.i64 d, Value.int IntKind.i64 k] 57)).alloc (Obj.cells #[.int .i64 h, .int .i64 0, .int .i64 1000000, .func (.func 87) #[] #[], .int .i64 d, .int .i64 1, .int .i64 1000000, .func (.func 87) #[] #[], .int .i64 k, .int .i64 1, .int .i64 4096, .func (.func 87) #[] #[]] 106)) (some ⟨w.heap.size + 1, 0, none⟩) (ruleCells [⟨h, 0, 1000000⟩, ⟨d, 1, 1000000⟩, ⟨k, 1, 4096⟩]) := by
    intro _
    refine ⟨_, _, rfl, by simp, fun j u hu => ?_⟩
    have hB : Bk ((w.alloc (Obj.cells #[Value.int IntKind.i64 h, Value.int IntKind.i64 d, Value.int IntKind.i64 k] 57)).alloc (Obj.cells #[.int .i64 h, .int .i64 0, .int .i64 1000000, .func (.func 87) #[] #[], .int .i64 d, .int .i64 1, .int .i64 1000000, .func (.func 87) #[] #[], .int .i64 k, .int .i64 1, .int .i64 4096, .func (.func 87) #[] #[]] 106)) (w.heap.size + 1) 106 #[.int .i64 h, .int .i64 0, .int .i64 1000000, .func (.func 87) #[] #[], .int .i64 d, .int .i64 1, .int .i64 1000000, .func (.func 87) #[] #[], .int .i64 k, .int .i64 1, .int .i64 4096, .func (.func 87) #[] #[]] := bk_last (by simp)
    rw [hB.cell, Nat.zero_add]
    simpa [ruleCells] using hu
  refine (allRules_any _ _ _ _ hR (by simp)).mono ?_
  rintro e w1 ⟨rfl, hb1⟩
  go_wp2_with fail
  go_ret
  exact ⟨ret_bool (by simp [Rule.ok, okFeed, Bool.and_assoc]), (((Below.refl _ _).alloc (Nat.le_refl _) _).alloc (by simp) _).trans (hb1.mono (by simp; omega))⟩

end Go.Proofs.Ytheifigkclegdaa
