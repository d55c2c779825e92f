/-
  What is proved: the contract of told, for each of the two functions that are handed to it.
  What is proved: the contracts of Closest and of Lift.
  What is proved: a map[int]bool of the call's own as a list of the numbers that were put in; the contract of Red's inner function.
-/
import Derived.Test.YthmngnfdfelkeaaMg14
import Derived.Test.YthmngnfdfelkeaaMg7
import Derived.Maps.Own
import Derived.Maps.OwnOps
import Derived.Maps.OwnSet
import Derived.Maps.Views
namespace Go.Proofs.Ythmngnfdfelkeaa
open Go.RowKit
attribute [local go_sem ↓] max_int min_int

theorem set_next (l : List Int) (m : Nat) (x : Int) : (intCells (l ++ List.replicate (m + 1) 0)).set l.length (.int .i64 x) = intCells (l ++ [x] ++ List.replicate m 0) := by
  unfold intCells
  rw [List.map_append, List.set_append_right _ _ (by simp), List.map_append, List.map_append, List.append_assoc]
  simp [List.replicate_succ]

set_option maxRecDepth 100000 in
set_option maxHeartbeats 4000000 in
theorem told91_any (a b : Nat) (g : Nat) (p : Gp) (z : GLoc) (F : Nat → Int) (w : World) (G : Bk w g 154 (p.cells z)) (hn : p.bed.length ≤ 100000)
    (HC0 : ∀ (W : World) (i : Nat), Below w.heap.size w W → i < p.bed.length → Calls Try.prog 91 #[.int .i64 i, .pointer (some ⟨a, 0, none⟩), .pointer (some ⟨b, 0, none⟩)] W fun e w' => e = .returned (.int .i64 (F i)) ∧ Below W.heap.size W w') :
    Calls Try.prog 85 #[.pointer (some ⟨g, 0, none⟩), .func (.func 91) #[] #[.pointer (some ⟨a, 0, none⟩), .pointer (some ⟨b, 0, none⟩)]] w fun e w' => ∃ v, e = .returned v ∧ w'.ownsRow w.heap.size 3 1 v p.bed.length (intCells ((List.range p.bed.length).map F)) ∧ Below w.heap.size w w' := by
  obtain ⟨i0, hi0, hz0, hz1, hz2⟩ := info_parts intInfo
  have HC := Lib.hid HC0
  have x4 := G.cell 4
  simp only [Gp.cells] at x4
  simp at x4
  have bb2 : i0.bytes * p.bed.length ≤ 281474976710656 := by rw [hz2]; omega
  have bb3 : p.bed.length ≤ maxLen := by unfold maxLen; omega
  clear HC0 G
  generalize p.bed.length = n at *
  go_enter Try.func85, Try.ntmps85
  go_wp2_with (at_make; refine (wpList_make_full _ rfl _ _ 22 rfl w.heap.size 3 i0 _ 1 Try.underlying22 hi0 hz0 hz1 .i64 .i64 _ _ n rfl rfl rfl rfl bb2 bb3 (Nat.le_refl _) ?_); intro w1 hown hgr)
  have hrow0 : (madeCells (Value.int IntKind.i64 0).cells (n * 1)).toList = intCells ((List.range 0).map F ++ List.replicate (n - 0) 0) := by
    rw [Nat.mul_one]
    show (madeCells #[Value.int IntKind.i64 0] n).toList = _
    rw [toList_madeCells_one]
    simp [intCells]
  rw [hrow0] at hown
  have hB : Below w.heap.size w w1 := (Below.refl _ _).grown hgr (Nat.le_refl _) (fun r e => by cases e)
  clear hrow0 hgr x4 bb2 bb3
  go_loopw [15] (fun i wr => ∃ k : Nat, k ≤ n ∧ i = .int .i64 k ∧ wr.ownsRow w.heap.size 3 1 (.slice (some ⟨w.heap.size, 0, none⟩) n n) n (intCells ((List.range k).map F ++ List.replicate (n - k) 0)) ∧ Below w.heap.size w wr) (fun i _ => n - (intOf i).toNat)
  case atStart => exact ⟨0, Nat.zero_le _, rfl, hown, hB⟩
  case round =>
    clear hown hB
    obtain ⟨k, hk, rfl, hown, hB⟩ := hrel
    by_cases hlt : k < n
    · have hI : (k : Int) < n := by omega
      have HR : Hid ((intCells ((List.range k).map F ++ List.replicate (n - k) 0)).set k (.int .i64 (F k)) = intCells ((List.range (k + 1)).map F ++ List.replicate (n - (k + 1)) 0)) := by
        refine Lib.hid ?_
        have h := set_next ((List.range k).map F) (n - (k + 1)) (F k)
        rw [show n - (k + 1) + 1 = n - k by omega] at h
        rw [List.range_succ, List.map_append]
        simpa using h
      have HX : Hid (Calls Try.prog 91 #[.int .i64 k, .pointer (some ⟨a, 0, none⟩), .pointer (some ⟨b, 0, none⟩)] wr fun e w' => e = .returned (.int .i64 (F k)) ∧ Below wr.heap.size wr w') := HC.out wr k hB hlt
      have hc0 := hown.cellAt k (by omega)
      have hcx : ∃ v0, (intCells ((List.range k).map F ++ List.replicate (n - k) 0))[k]? = some v0 := ⟨_, List.getElem?_eq_getElem (by simp [intCells]; omega)⟩
      obtain ⟨v0, hv0⟩ := hcx
      have hc1 := hc0.trans hv0
      have hfz := hown.frozenAt k
      clear HC hv0 hc0
      generalize F k = f at *
      have HO := Lib.hid hown
      have HBB := Lib.hid hB
      clear hown
      go_wp2_with (go_at_call 91; refine (HX.out).mono ?_; rintro e w2 ⟨rfl, hb2⟩; have hc2 := keepc hb2 hc1; have hf2 : w2.frozen? ⟨w.heap.size, k, none⟩ = false := ((bcell hb2).2 _ _ (World.block_lt_of_cell? wr _ hc1)).trans hfz)
      have hb3 := HBB.out.trans (hb2.mono HBB.out.size)
      have ho3 := (own_keep HO.out hb2).stored k (.int .i64 f)
      rw [HR.out] at ho3
      go_roundw
      case rel => exact ⟨k + 1, by omega, by go_num, ho3.1, hb3.setCell (by simp <;> omega) _⟩
      case measure => simp [intOf]; omega
    · obtain rfl : k = n := by omega
      go_wp2_with fail
      go_ret
      exact ⟨_, rfl, by simpa using hown, hB⟩


set_option maxRecDepth 100000 in
set_option maxHeartbeats 4000000 in
theorem told86_any (a b c : Nat) (g : Nat) (p : Gp) (z : GLoc) (F : Nat → Int) (w : World) (G : Bk w g 154 (p.cells z)) (hn : p.bed.length ≤ 100000)
    (HC0 : ∀ (W : World) (i : Nat), Below w.heap.size w W → i < p.bed.length → Calls Try.prog 86 #[.int .i64 i, .pointer (some ⟨a, 0, none⟩), .pointer (some ⟨b, 0, none⟩), .pointer (some ⟨c, 0, none⟩)] W fun e w' => e = .returned (.int .i64 (F i)) ∧ Below W.heap.size W w') :
    Calls Try.prog 85 #[.pointer (some ⟨g, 0, none⟩), .func (.func 86) #[] #[.pointer (some ⟨a, 0, none⟩), .pointer (some ⟨b, 0, none⟩), .pointer (some ⟨c, 0, none⟩)]] w fun e w' => ∃ v, e = .returned v ∧ w'.ownsRow w.heap.size 3 1 v p.bed.length (intCells ((List.range p.bed.length).map F)) ∧ Below w.heap.size w w' := by
  obtain ⟨i0, hi0, hz0, hz1, hz2⟩ := info_parts intInfo
  have HC := Lib.hid HC0
  have x4 := G.cell 4
  simp only [Gp.cells] at x4
  simp at x4
  have bb2 : i0.bytes * p.bed.length ≤ 281474976710656 := by rw [hz2]; omega
  have bb3 : p.bed.length ≤ maxLen := by unfold maxLen; omega
  clear HC0 G
  generalize p.bed.length = n at *
  go_enter Try.func85, Try.ntmps85
  go_wp2_with (at_make; refine (wpList_make_full _ rfl _ _ 22 rfl w.heap.size 3 i0 _ 1 Try.underlying22 hi0 hz0 hz1 .i64 .i64 _ _ n rfl rfl rfl rfl bb2 bb3 (Nat.le_refl _) ?_); intro w1 hown hgr)
  have hrow0 : (madeCells (Value.int IntKind.i64 0).cells (n * 1)).toList = intCells ((List.range 0).map F ++ List.replicate (n - 0) 0) := by
    rw [Nat.mul_one]
    show (madeCells #[Value.int IntKind.i64 0] n).toList = _
    rw [toList_madeCells_one]
    simp [intCells]
  rw [hrow0] at hown
  have hB : Below w.heap.size w w1 := (Below.refl _ _).grown hgr (Nat.le_refl _) (fun r e => by cases e)
  clear hrow0 hgr x4 bb2 bb3
  go_loopw [15] (fun i wr => ∃ k : Nat, k ≤ n ∧ i = .int .i64 k ∧ wr.ownsRow w.heap.size 3 1 (.slice (some ⟨w.heap.size, 0, none⟩) n n) n (intCells ((List.range k).map F ++ List.replicate (n - k) 0)) ∧ Below w.heap.size w wr) (fun i _ => n - (intOf i).toNat)
  case atStart => exact ⟨0, Nat.zero_le _, rfl, hown, hB⟩
  case round =>
    clear hown hB
    obtain ⟨k, hk, rfl, hown, hB⟩ := hrel
    by_cases hlt : k < n
    · have hI : (k : Int) < n := by omega
      have HR : Hid ((intCells ((List.range k).map F ++ List.replicate (n - k) 0)).set k (.int .i64 (F k)) = intCells ((List.range (k + 1)).map F ++ List.replicate (n - (k + 1)) 0)) := by
        refine Lib.hid ?_
        have h := set_next ((List.range k).map F) (n - (k + 1)) (F k)
        rw [show n - (k + 1) + 1 = n - k by omega] at h
        rw [List.range_succ, List.map_append]
        simpa using h
      have HX : Hid (Calls Try.prog 86 #[.int .i64 k, .pointer (some ⟨a, 0, none⟩), .pointer (some ⟨b, 0, none⟩), .pointer (some ⟨c, 0, none⟩)] wr fun e w' => e = .returned (.int .i64 (F k)) ∧ Below wr.heap.size wr w') := HC.out wr k hB hlt
      have hc0 := hown.cellAt k (by omega)
      have hcx : ∃ v0, (intCells ((List.range k).map F ++ List.replicate (n - k) 0))[k]? = some v0 := ⟨_, List.getElem?_eq_getElem (by simp [intCells]; omega)⟩
      obtain ⟨v0, hv0⟩ := hcx
      have hc1 := hc0.trans hv0
      have hfz := hown.frozenAt k
      clear HC hv0 hc0
      generalize F k = f at *
      have HO := Lib.hid hown
      have HBB := Lib.hid hB
      clear hown
      go_wp2_with (go_at_call 86; refine (HX.out).mono ?_; rintro e w2 ⟨rfl, hb2⟩; have hc2 := keepc hb2 hc1; have hf2 : w2.frozen? ⟨w.heap.size, k, none⟩ = false := ((bcell hb2).2 _ _ (World.block_lt_of_cell? wr _ hc1)).trans hfz)
      have hb3 := HBB.out.trans (hb2.mono HBB.out.size)
      have ho3 := (own_keep HO.out hb2).stored k (.int .i64 f)
      rw [HR.out] at ho3
      go_roundw
      case rel => exact ⟨k + 1, by omega, by go_num, ho3.1, hb3.setCell (by simp <;> omega) _⟩
      case measure => simp [intOf]; omega
    · obtain rfl : k = n := by omega
      go_wp2_with fail
      go_ret
      exact ⟨_, rfl, by simpa using hown, hB⟩


end Go.Proofs.Ythmngnfdfelkeaa
namespace Go.Proofs.Ythmngnfdfelkeaa
open Go.RowKit
attribute [local go_sem ↓] max_int min_int

theorem run_store_func {P : Program} {w : World} {a : Addr} {m : Mode} (f : Fn) (xs ys : Array Value) : (store a (.func f xs ys) m).run P w = stored P w a (.func f xs ys) m := run_store P w a _ m rfl
attribute [local go_sem] run_store_func

set_option maxRecDepth 100000 in
set_option maxHeartbeats 2000000 in
theorem close1_any (a b g : Nat) (p : Gp) (z : GLoc) (l : Int) (c : Nat) (w : World) (hA : Bk w a 3 #[.int .i64 l]) (hC : Bk w b 94 #[.func (.func 90) #[.pointer (some ⟨g, 0, none⟩)] #[]]) (G : Bk w g 154 (p.cells z)) (hp : GpAt w p z) (hok : p.ok = true) (hc : c < p.f.kinds.length) (hl : 0 ≤ l ∧ l ≤ 1000000000) :
    Calls Try.prog 91 #[.int .i64 c, .pointer (some ⟨a, 0, none⟩), .pointer (some ⟨b, 0, none⟩)] w fun e w' => e = .returned (.int .i64 (l - topV p c)) ∧ Below w.heap.size w w' := by
  have HS : Hid (∀ x : Ext w, Calls Try.prog 90 #[.pointer (some ⟨g, 0, none⟩), .int .i64 c] x.w fun e w' => e = .returned (.int .i64 (topV p c)) ∧ Below x.w.heap.size x.w w') := fun x => highest_any g p z c x.w (G.keep x.bel) (hp.below x.bel) hok hc
  have hb := top_bound hok hc
  have a0 := hA.cell 0
  have c0 := hC.cell 0
  simp at a0 c0
  have X0 := fun x : Ext w => keepc x.bel a0
  have X1 := fun x : Ext w => keepc x.bel c0
  clear G hp hok hc hA hC a0 c0
  generalize topV p c = m at *
  go_enter Try.func91, Try.ntmps91
  go_upto_region 1 with fail
  refine wp_region_ext (by kernel_rfl) (by kernel_rfl) ?_
  repeat (go_big_quiet_step ((go_at_call 90; exact ext_of (HS.out _))))
  refine wpQuiet_nil ?_
  rintro _ ⟨y, rfl⟩
  have hb1 := y.bel
  generalize y.w = w2 at hb1
  go_wp2_with fail
  go_ret
  exact ⟨rfl, hb1⟩

/-- What Closest gives. -/
def closeR (p : Gp) (l : Int) : List Int × Int :=
  if p.ok then if inB l 0 1000000000 then ((List.range p.bed.length).map fun c => l - topV p c, 0) else ([], 1) else ([], layE p)

set_option maxRecDepth 100000 in
set_option maxHeartbeats 4000000 in
theorem closest_any (p : Gp) (z : GLoc) (l : Int) (w : World) (hp : GpAt w p z) :
    Calls Try.prog 37 #[p.f.val z.a1 z.c1, .slice z.a2 p.bed.length z.c2, .slice z.a3 p.run.length z.c3, .int .i64 l] w fun e w' => ∃ v, e = .returned (.tuple #[v, .int .i64 (closeR p l).2]) ∧ w'.ownsRow w.heap.size 3 1 v (closeR p l).1.length (intCells (closeR p l).1) ∧ Below w.heap.size w w' := by
  have HO : Hid (∀ W, GpAt W p z → Calls Try.prog 83 #[p.f.val z.a1 z.c1, .slice z.a2 p.bed.length z.c2, .slice z.a3 p.run.length z.c3] W (LayPost p z W)) := fun W h => lay_any p z W h
  have HI := fun W => lifted_any l W
  unfold Fac.val at HO ⊢
  go_enter Try.func37, Try.ntmps37
  go_wp2_with fail
  refine (HO.out _ ((hp.alloc _).alloc _)).mono ?_
  rintro e w1 ⟨hb1, h⟩
  have hB : Below w.heap.size w w1 := (((Below.refl _ _).alloc (Nat.le_refl _) _).alloc (by simp) _).trans (hb1.mono (by simp; omega))
  have L : Bk w1 (w.heap.size + 1) 3 #[.int .i64 l] := (bk_last (by simp)).keep hb1
  have l0 := L.cell 0
  simp at l0
  clear hb1
  rcases h with ⟨h1, rfl⟩ | ⟨h1, g, rfl, hg, R⟩
  · have hR : closeR p l = ([], layE p) := by simp [closeR, h1]
    have hne : ((layE p == 0)) = false := by
      simp only [layE]
      simp only [Gp.ok, Bool.and_eq_false_iff] at h1
      rcases h1 with h1 | h1 <;> simp [h1]
      split <;> simp
    have HR := Lib.hid hR
    clear hR h1
    generalize layE p = le at *
    go_wp2_with fail
    go_ret2
    exact ⟨.slice none 0 0, by rw [HR.out]; rfl, by rw [HR.out]; exact World.ownsRow_nil _ _ _ _, hB⟩
  · cases hl : inB l 0 1000000000
    · have hR : closeR p l = ([], 1) := by simp [closeR, h1, hl]
      have HR := Lib.hid hR
      rw [hl] at HI
      clear hR hl
      go_wp2_with (go_at_call 84; refine (HI _).mono ?_; rintro e w2 ⟨rfl, hb2⟩)
      go_ret2
      exact ⟨.slice none 0 0, by rw [HR.out]; rfl, by rw [HR.out]; exact World.ownsRow_nil _ _ _ _, hB.trans (hb2.mono hB.size)⟩
    · have hR : closeR p l = ((List.range p.bed.length).map fun c => l - topV p c, 0) := by simp [closeR, h1, hl]
      have HR := Lib.hid hR
      rw [hl] at HI
      have hlb : 0 ≤ l ∧ l ≤ 1000000000 := by simpa [inB] using hl
      obtain ⟨h2, h3, _⟩ := gp_ok h1
      obtain ⟨_, _, _, _, _, _, _, k8⟩ := fac_ok h2
      clear hR hl
      go_wp2_with (go_at_call 84; refine (HI _).mono ?_; rintro e w2 ⟨rfl, hb2⟩)
      have hB2 := hB.trans (hb2.mono hB.size)
      have R2 := R.keep hb2
      have L2 := L.keep hb2
      have hX : Below w2.heap.size w2 (w2.alloc (.cells #[.func (.func 90) #[.pointer (some ⟨g, 0, none⟩)] #[]] 94)) := (Below.refl _ _).alloc (Nat.le_refl _) _
      have hF : Bk (w2.alloc (.cells #[.func (.func 90) #[.pointer (some ⟨g, 0, none⟩)] #[]] 94)) w2.heap.size 94 #[.func (.func 90) #[.pointer (some ⟨g, 0, none⟩)] #[]] := bk_last rfl
      have HT := Lib.hid (told91_any (w.heap.size + 1) w2.heap.size g p z (fun c => l - topV p c) _ (R2.keep hX) (by omega) (fun W i hb hi => close1_any _ _ g p z l i W ((L2.keep hX).keep hb) (hF.keep hb) ((R2.keep hX).keep hb) (((hp.below hB2).below hX).below hb) h1 (by omega) hlb))
      have hB3 := hB2.trans (hX.mono hB2.size)
      go_wp2_with (go_at_call 85; refine (HT.out).mono ?_; rintro e w3 ⟨v, rfl, ho, hb3⟩; obtain ⟨A3, c3, rfl, _, _, _⟩ := own_form ho)
      go_ret2
      have hB4 := hB3.trans (hb3.mono hB3.size)
      exact ⟨_, by rw [HR.out]; rfl, by rw [HR.out]; simpa [h3] using own_base ho hB3.size, hB4⟩

/-- What Lift gives. -/
def liftR (p : Gp) (l : Int) : Int × Int :=
  if p.ok then if inB l (-1000000000) 1000000000 then (max 0 (l + mostF (topV p) p.bed.length), 0) else (0, 1) else (0, layE p)

end Go.Proofs.Ythmngnfdfelkeaa
namespace Go.Proofs.Ythmngnfdfelkeaa
open Go.RowKit
open Go.Maps
attribute [local go_sem ↓] max_int min_int

/-- Block b is a map that holds true at the numbers of l. -/
def SeenAt (w : World) (b : Nat) (l : List Int) : Prop :=
  ∃ (n : Nat) (D : DataW Unit), n ≤ l.length ∧ w.ownsMap Try.prog 3 (plainElem Try.prog 4) b n D ∧ ∀ x : Int, D.atKey (.int .i64 x) (.lit (.bool false)) = .lit (.bool (decide (x ∈ l)))

theorem SeenAt.lt {w : World} {b : Nat} {l : List Int} (h : SeenAt w b l) : b < w.heap.size := by
  obtain ⟨n, D, _, h, _⟩ := h
  exact h.lt
theorem SeenAt.kept {w w' : World} {b : Nat} {l : List Int} {row : Option Nat} (h : SeenAt w b l) (hg : w.grownBy w' row) (hne : some b ≠ row) : SeenAt w' b l := by
  obtain ⟨n, D, h1, h2, h3⟩ := h
  exact ⟨n, D, h1, h2.kept hg hne, h3⟩
theorem SeenAt.made (w : World) : SeenAt (w.alloc (.map #[] 0)) w.heap.size [] :=
  ⟨0, .map [], Nat.le_refl _, World.ownsMap_made w _ _ _, fun x => by rw [WideAt.atKey_none _ (fun p hp => by simp at hp)]; simp⟩

theorem key_int {x : Int} (hx : -9223372036854775808 ≤ x ∧ x ≤ 9223372036854775807) : keyOf Try.prog 3 (.int .i64 x) = some (.int .i64 x) :=
  keyOf_int_mk Try.underlying3 (by simp [Lit.wf, IntKind.min, IntKind.max, IntKind.signed, IntKind.bits]; omega)

set_option maxRecDepth 100000 in
theorem SeenAt.look {w : World} {b : Nat} {l : List Int} (h : SeenAt w b l) {x : Int} (hx : -9223372036854775808 ≤ x ∧ x ≤ 9223372036854775807) :
    (Instr.lookup 91 (.map (some b)) (.int .i64 x) false).run Try.prog w = .ok (.bool (decide (x ∈ l))) w := by
  obtain ⟨n, D, _, h2, h3⟩ := h
  obtain ⟨v, ps, hrun, hv⟩ := h2.lookup (int_keyed Try.underlying3) Try.underlying91 (z := .bool false) (by kernel_rfl) (zd := .lit (.bool false)) (zp := []) (plainElem_bool Try.underlying4 false) (key_int hx)
  rw [h3] at hv
  rw [hrun]
  have : v = .bool (decide (x ∈ l)) := by
    unfold plainElem at hv
    rw [Try.underlying4] at hv
    cases v <;> simp at hv
    rw [hv.1]
  rw [this]

theorem wpList_seen {w : World} {ops : Array Oper} {rest : List Oper} {o : Oper} {a : Act} {Q : Exit → Act → World → Prop}
    (hg : o.guard = none) (m x v : Operand) (hop : o.op = Op.mapUpdate 91 m x v) (b : Nat) (l : List Int) (hm : a.eval m = .map (some b)) (h : SeenAt w b l) (hn : l.length < maxLen) (y : Int) (hx : a.eval x = .int .i64 y) (hv : a.eval v = .bool true)
    (hy : -9223372036854775808 ≤ y ∧ y ≤ 9223372036854775807)
    (hK : ∀ w', SeenAt w' b (l ++ [y]) → w.grownBy w' (some b) → wpList Try.prog ops Q rest (a.put o.dst undef) w') :
    wpList Try.prog ops Q (o :: rest) a w := by
  obtain ⟨n, D, h1, h2, h3⟩ := h
  refine wpList_mapUpdate_own w hg m x v 91 hop 3 4 (int_keyed Try.underlying3) Try.underlying91 (plainElem Try.prog 4) b n D hm h2 (by omega) _ _ _ hx hv (key_int hy) (.lit (.bool true)) [] (plainElem_bool Try.underlying4 true) ?_
  intro w' ho hgr
  refine hK w' ⟨n + 1, _, by simp; omega, ho, fun z => ?_⟩ hgr
  by_cases e : z = y
  · subst e
    rw [atKey_put_same h2.isMap (by simp [WideAt.IsKeyLit])]
    simp
  · rw [atKey_put_other (by simpa using e), h3]
    simp [e]

set_option maxRecDepth 100000 in
set_option maxHeartbeats 2000000 in
theorem red1_any (a b : Nat) (A1 A2 : Option Addr) (c1 c2 : Nat) (hs cs : List Int) (i : Nat) (w : World) (hA : Bk w a 22 #[.slice A1 hs.length c1]) (hC : Bk w b 22 #[.slice A2 cs.length c2]) (h1 : RowAt w A1 (intCells hs)) (h2 : RowAt w A2 (intCells cs)) (hi : i < cs.length) (hc : 0 ≤ cs.getD i 0 ∧ cs.getD i 0 < hs.length) :
    Calls Try.prog 69 #[.int .i64 i, .pointer (some ⟨a, 0, none⟩), .pointer (some ⟨b, 0, none⟩)] w fun e w' => e = .returned (.int .i64 (hs.getD (cs.getD i 0).toNat 0)) ∧ Below w.heap.size w w' := by
  have a0 := hA.cell 0
  have c0 := hC.cell 0
  obtain ⟨b2, o2, ha2, hb2, hc2⟩ := h1.intD (by omega)
  obtain ⟨b3, o3, ha3, hb3, hc3⟩ := h2.intD (by omega)
  have d3 := hc3 i hi
  have hB := Below.refl w.heap.size w
  generalize hv : cs.getD i 0 = v at *
  obtain ⟨k, rfl⟩ : ∃ k : Nat, v = k := ⟨v.toNat, by omega⟩
  have d2 := hc2 k (by omega)
  rw [Int.toNat_natCast]
  rw [ha2] at a0
  rw [ha3] at c0
  simp at a0 c0
  have hiI : (i : Int) < cs.length := by omega
  obtain ⟨_, hcI⟩ := hc
  clear hc2 hc3 hv ha2 ha3 h1 h2 hA hC
  generalize hs.getD k 0 = x at *
  go_enter Try.func69, Try.ntmps69
  go_wp2_with fail
  go_quiet (fail)
  go_wp2_with fail
  go_ret
  exact ⟨rfl, below_drewN hB _⟩

end Go.Proofs.Ythmngnfdfelkeaa
