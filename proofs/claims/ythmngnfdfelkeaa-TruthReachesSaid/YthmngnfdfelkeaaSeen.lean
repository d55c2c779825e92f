/-
  What is proved: a map[int]bool of the call's own as a list of the numbers that were put in; the contract of Red's inner function.
-/
import Derived.Test.YthmngnfdfelkeaaMost
import Derived.Maps.Own
import Derived.Maps.OwnOps
import Derived.Maps.OwnSet
import Derived.Maps.Views
namespace Go.Proofs.Ythmngnfdfelkeaa
open Go.RowKit
open Go.Maps
attribute [local go_sem ↓] max_int min_int

/-- Block b is a map that holds true at the numbers of l. -/
def SeenAt (w : World) (b : Nat) (l : List Int) : Prop :=
  ∃ (n : Nat) (D : DataW Unit), n ≤ l.length ∧ w.ownsMap Try.prog 3 (plainElem Try.prog 4) b n D ∧ ∀ x : Int, D.atKey (.int .i64 x) (.lit (.bool false)) = .lit (.bool (decide (x ∈ l)))

theorem SeenAt.lt {w : World} {b : Nat} {l : List Int} (h : SeenAt w b l) : b < w.heap.size := by
  obtain ⟨n, D, _, h, _⟩ := h
  exact h.lt
theorem SeenAt.kept {w w' : World} {b : Nat} {l : List Int} {row : Option Nat} (h : SeenAt w b l) (hg : w.grownBy w' row) (hne : some b ≠ row) : SeenAt w' b l := by
  obtain ⟨n, D, h1, h2, h3⟩ := h
  exact ⟨n, D, h1, h2.kept hg hne, h3⟩
theorem SeenAt.made (w : World) : SeenAt (w.alloc (.map #[] 0)) w.heap.size [] :=
  ⟨0, .map [], Nat.le_refl _, World.ownsMap_made w _ _ _, fun x => by rw [WideAt.atKey_none _ (fun p hp => by simp at hp)]; simp⟩

theorem key_int {x : Int} (hx : -9223372036854775808 ≤ x ∧ x ≤ 9223372036854775807) : keyOf Try.prog 3 (.int .i64 x) = some (.int .i64 x) :=
  keyOf_int_mk Try.underlying3 (by simp [Lit.wf, IntKind.min, IntKind.max, IntKind.signed, IntKind.bits]; omega)

set_option maxRecDepth 100000 in
theorem SeenAt.look {w : World} {b : Nat} {l : List Int} (h : SeenAt w b l) {x : Int} (hx : -9223372036854775808 ≤ x ∧ x ≤ 9223372036854775807) :
    (Instr.lookup 91 (.map (some b)) (.int .i64 x) false).run Try.prog w = .ok (.bool (decide (x ∈ l))) w := by
  obtain ⟨n, D, _, h2, h3⟩ := h
  obtain ⟨v, ps, hrun, hv⟩ := h2.lookup (int_keyed Try.underlying3) Try.underlying91 (z := .bool false) (by kernel_rfl) (zd := .lit (.bool false)) (zp := []) (plainElem_bool Try.underlying4 false) (key_int hx)
  rw [h3] at hv
  rw [hrun]
  have : v = .bool (decide (x ∈ l)) := by
    unfold plainElem at hv
    rw [Try.underlying4] at hv
    cases v <;> simp at hv
    rw [hv.1]
  rw [this]

theorem wpList_seen {w : World} {ops : Array Oper} {rest : List Oper} {o : Oper} {a : Act} {Q : Exit → Act → World → Prop}
    (hg : o.guard = none) (m x v : Operand) (hop : o.op = Op.mapUpdate 91 m x v) (b : Nat) (l : List Int) (hm : a.eval m = .map (some b)) (h : SeenAt w b l) (hn : l.length < maxLen) (y : Int) (hx : a.eval x = .int .i64 y) (hv : a.eval v = .bool true)
    (hy : -9223372036854775808 ≤ y ∧ y ≤ 9223372036854775807)
    (hK : ∀ w', SeenAt w' b (l ++ [y]) → w.grownBy w' (some b) → wpList Try.prog ops Q rest (a.put o.dst undef) w') :
    wpList Try.prog ops Q (o :: rest) a w := by
  obtain ⟨n, D, h1, h2, h3⟩ := h
  refine wpList_mapUpdate_own w hg m x v 91 hop 3 4 (int_keyed Try.underlying3) Try.underlying91 (plainElem Try.prog 4) b n D hm h2 (by omega) _ _ _ hx hv (key_int hy) (.lit (.bool true)) [] (plainElem_bool Try.underlying4 true) ?_
  intro w' ho hgr
  refine hK w' ⟨n + 1, _, by simp; omega, ho, fun z => ?_⟩ hgr
  by_cases e : z = y
  · subst e
    rw [atKey_put_same h2.isMap (by simp [WideAt.IsKeyLit])]
    simp
  · rw [atKey_put_other (by simpa using e), h3]
    simp [e]

set_option maxRecDepth 100000 in
set_option maxHeartbeats 2000000 in
theorem red1_any (a b : Nat) (A1 A2 : Option Addr) (c1 c2 : Nat) (hs cs : List Int) (i : Nat) (w : World) (hA : Bk w a 22 #[.slice A1 hs.length c1]) (hC : Bk w b 22 #[.slice A2 cs.length c2]) (h1 : RowAt w A1 (intCells hs)) (h2 : RowAt w A2 (intCells cs)) (hi : i < cs.length) (hc : 0 ≤ cs.getD i 0 ∧ cs.getD i 0 < hs.length) :
    Calls Try.prog 69 #[.int .i64 i, .pointer (some ⟨a, 0, none⟩), .pointer (some ⟨b, 0, none⟩)] w fun e w' => e = .returned (.int .i64 (hs.getD (cs.getD i 0).toNat 0)) ∧ Below w.heap.size w w' := by
  have a0 := hA.cell 0
  have c0 := hC.cell 0
  obtain ⟨b2, o2, ha2, hb2, hc2⟩ := h1.intD (by omega)
  obtain ⟨b3, o3, ha3, hb3, hc3⟩ := h2.intD (by omega)
  have d3 := hc3 i hi
  have hB := Below.refl w.heap.size w
  generalize hv : cs.getD i 0 = v at *
  obtain ⟨k, rfl⟩ : ∃ k : Nat, v = k := ⟨v.toNat, by omega⟩
  have d2 := hc2 k (by omega)
  rw [Int.toNat_natCast]
  rw [ha2] at a0
  rw [ha3] at c0
  simp at a0 c0
  have hiI : (i : Int) < cs.length := by omega
  obtain ⟨_, hcI⟩ := hc
  clear hc2 hc3 hv ha2 ha3 h1 h2 hA hC
  generalize hs.getD k 0 = x at *
  go_enter Try.func69, Try.ntmps69
  go_wp2_with fail
  go_quiet (fail)
  go_wp2_with fail
  go_ret
  exact ⟨rfl, below_drewN hB _⟩

end Go.Proofs.Ythmngnfdfelkeaa
