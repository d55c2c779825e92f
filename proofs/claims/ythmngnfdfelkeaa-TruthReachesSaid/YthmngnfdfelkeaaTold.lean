/-
  What is proved: the contract of told, for each of the two functions that are handed to it.
-/
import Derived.Test.YthmngnfdfelkeaaHigh
import Derived.Test.YthmngnfdfelkeaaIter
namespace Go.Proofs.Ythmngnfdfelkeaa
open Go.RowKit
attribute [local go_sem ↓] max_int min_int

theorem set_next (l : List Int) (m : Nat) (x : Int) : (intCells (l ++ List.replicate (m + 1) 0)).set l.length (.int .i64 x) = intCells (l ++ [x] ++ List.replicate m 0) := by
  unfold intCells
  rw [List.map_append, List.set_append_right _ _ (by simp), List.map_append, List.map_append, List.append_assoc]
  simp [List.replicate_succ]

set_option maxRecDepth 100000 in
set_option maxHeartbeats 4000000 in
theorem told91_any (a b : Nat) (g : Nat) (p : Gp) (z : GLoc) (F : Nat → Int) (w : World) (G : Bk w g 154 (p.cells z)) (hn : p.bed.length ≤ 100000)
    (HC0 : ∀ (W : World) (i : Nat), Below w.heap.size w W → i < p.bed.length → Calls Try.prog 91 #[.int .i64 i, .pointer (some ⟨a, 0, none⟩), .pointer (some ⟨b, 0, none⟩)] W fun e w' => e = .returned (.int .i64 (F i)) ∧ Below W.heap.size W w') :
    Calls Try.prog 85 #[.pointer (some ⟨g, 0, none⟩), .func (.func 91) #[] #[.pointer (some ⟨a, 0, none⟩), .pointer (some ⟨b, 0, none⟩)]] w fun e w' => ∃ v, e = .returned v ∧ w'.ownsRow w.heap.size 3 1 v p.bed.length (intCells ((List.range p.bed.length).map F)) ∧ Below w.heap.size w w' := by
  obtain ⟨i0, hi0, hz0, hz1, hz2⟩ := info_parts intInfo
  have HC := Lib.hid HC0
  have x4 := G.cell 4
  simp only [Gp.cells] at x4
  simp at x4
  have bb2 : i0.bytes * p.bed.length ≤ 281474976710656 := by rw [hz2]; omega
  have bb3 : p.bed.length ≤ maxLen := by unfold maxLen; omega
  clear HC0 G
  generalize p.bed.length = n at *
  go_enter Try.func85, Try.ntmps85
  go_wp2_with (at_make; refine (wpList_make_full _ rfl _ _ 22 rfl w.heap.size 3 i0 _ 1 Try.underlying22 hi0 hz0 hz1 .i64 .i64 _ _ n rfl rfl rfl rfl bb2 bb3 (Nat.le_refl _) ?_); intro w1 hown hgr)
  have hrow0 : (madeCells (Value.int IntKind.i64 0).cells (n * 1)).toList = intCells ((List.range 0).map F ++ List.replicate (n - 0) 0) := by
    rw [Nat.mul_one]
    show (madeCells #[Value.int IntKind.i64 0] n).toList = _
    rw [toList_madeCells_one]
    simp [intCells]
  rw [hrow0] at hown
  have hB : Below w.heap.size w w1 := (Below.refl _ _).grown hgr (Nat.le_refl _) (fun r e => by cases e)
  clear hrow0 hgr x4 bb2 bb3
  go_loopw [15] (fun i wr => ∃ k : Nat, k ≤ n ∧ i = .int .i64 k ∧ wr.ownsRow w.heap.size 3 1 (.slice (some ⟨w.heap.size, 0, none⟩) n n) n (intCells ((List.range k).map F ++ List.replicate (n - k) 0)) ∧ Below w.heap.size w wr) (fun i _ => n - (intOf i).toNat)
  case atStart => exact ⟨0, Nat.zero_le _, rfl, hown, hB⟩
  case round =>
    clear hown hB
    obtain ⟨k, hk, rfl, hown, hB⟩ := hrel
    by_cases hlt : k < n
    · have hI : (k : Int) < n := by omega
      have HR : Hid ((intCells ((List.range k).map F ++ List.replicate (n - k) 0)).set k (.int .i64 (F k)) = intCells ((List.range (k + 1)).map F ++ List.replicate (n - (k + 1)) 0)) := by
        refine Lib.hid ?_
        have h := set_next ((List.range k).map F) (n - (k + 1)) (F k)
        rw [show n - (k + 1) + 1 = n - k by omega] at h
        rw [List.range_succ, List.map_append]
        simpa using h
      have HX : Hid (Calls Try.prog 91 #[.int .i64 k, .pointer (some ⟨a, 0, none⟩), .pointer (some ⟨b, 0, none⟩)] wr fun e w' => e = .returned (.int .i64 (F k)) ∧ Below wr.heap.size wr w') := HC.out wr k hB hlt
      have hc0 := hown.cellAt k (by omega)
      have hcx : ∃ v0, (intCells ((List.range k).map F ++ List.replicate (n - k) 0))[k]? = some v0 := ⟨_, List.getElem?_eq_getElem (by simp [intCells]; omega)⟩
      obtain ⟨v0, hv0⟩ := hcx
      have hc1 := hc0.trans hv0
      have hfz := hown.frozenAt k
      clear HC hv0 hc0
      generalize F k = f at *
      have HO := Lib.hid hown
      have HBB := Lib.hid hB
      clear hown
      go_wp2_with (go_at_call 91; refine (HX.out).mono ?_; rintro e w2 ⟨rfl, hb2⟩; have hc2 := keepc hb2 hc1; have hf2 : w2.frozen? ⟨w.heap.size, k, none⟩ = false := ((bcell hb2).2 _ _ (World.block_lt_of_cell? wr _ hc1)).trans hfz)
      have hb3 := HBB.out.trans (hb2.mono HBB.out.size)
      have ho3 := (own_keep HO.out hb2).stored k (.int .i64 f)
      rw [HR.out] at ho3
      go_roundw
      case rel => exact ⟨k + 1, by omega, by go_num, ho3.1, hb3.setCell (by simp <;> omega) _⟩
      case measure => simp [intOf]; omega
    · obtain rfl : k = n := by omega
      go_wp2_with fail
      go_ret
      exact ⟨_, rfl, by simpa using hown, hB⟩


set_option maxRecDepth 100000 in
set_option maxHeartbeats 4000000 in
theorem told86_any (a b c : Nat) (g : Nat) (p : Gp) (z : GLoc) (F : Nat → Int) (w : World) (G : Bk w g 154 (p.cells z)) (hn : p.bed.length ≤ 100000)
    (HC0 : ∀ (W : World) (i : Nat), Below w.heap.size w W → i < p.bed.length → Calls Try.prog 86 #[.int .i64 i, .pointer (some ⟨a, 0, none⟩), .pointer (some ⟨b, 0, none⟩), .pointer (some ⟨c, 0, none⟩)] W fun e w' => e = .returned (.int .i64 (F i)) ∧ Below W.heap.size W w') :
    Calls Try.prog 85 #[.pointer (some ⟨g, 0, none⟩), .func (.func 86) #[] #[.pointer (some ⟨a, 0, none⟩), .pointer (some ⟨b, 0, none⟩), .pointer (some ⟨c, 0, none⟩)]] w fun e w' => ∃ v, e = .returned v ∧ w'.ownsRow w.heap.size 3 1 v p.bed.length (intCells ((List.range p.bed.length).map F)) ∧ Below w.heap.size w w' := by
  obtain ⟨i0, hi0, hz0, hz1, hz2⟩ := info_parts intInfo
  have HC := Lib.hid HC0
  have x4 := G.cell 4
  simp only [Gp.cells] at x4
  simp at x4
  have bb2 : i0.bytes * p.bed.length ≤ 281474976710656 := by rw [hz2]; omega
  have bb3 : p.bed.length ≤ maxLen := by unfold maxLen; omega
  clear HC0 G
  generalize p.bed.length = n at *
  go_enter Try.func85, Try.ntmps85
  go_wp2_with (at_make; refine (wpList_make_full _ rfl _ _ 22 rfl w.heap.size 3 i0 _ 1 Try.underlying22 hi0 hz0 hz1 .i64 .i64 _ _ n rfl rfl rfl rfl bb2 bb3 (Nat.le_refl _) ?_); intro w1 hown hgr)
  have hrow0 : (madeCells (Value.int IntKind.i64 0).cells (n * 1)).toList = intCells ((List.range 0).map F ++ List.replicate (n - 0) 0) := by
    rw [Nat.mul_one]
    show (madeCells #[Value.int IntKind.i64 0] n).toList = _
    rw [toList_madeCells_one]
    simp [intCells]
  rw [hrow0] at hown
  have hB : Below w.heap.size w w1 := (Below.refl _ _).grown hgr (Nat.le_refl _) (fun r e => by cases e)
  clear hrow0 hgr x4 bb2 bb3
  go_loopw [15] (fun i wr => ∃ k : Nat, k ≤ n ∧ i = .int .i64 k ∧ wr.ownsRow w.heap.size 3 1 (.slice (some ⟨w.heap.size, 0, none⟩) n n) n (intCells ((List.range k).map F ++ List.replicate (n - k) 0)) ∧ Below w.heap.size w wr) (fun i _ => n - (intOf i).toNat)
  case atStart => exact ⟨0, Nat.zero_le _, rfl, hown, hB⟩
  case round =>
    clear hown hB
    obtain ⟨k, hk, rfl, hown, hB⟩ := hrel
    by_cases hlt : k < n
    · have hI : (k : Int) < n := by omega
      have HR : Hid ((intCells ((List.range k).map F ++ List.replicate (n - k) 0)).set k (.int .i64 (F k)) = intCells ((List.range (k + 1)).map F ++ List.replicate (n - (k + 1)) 0)) := by
        refine Lib.hid ?_
        have h := set_next ((List.range k).map F) (n - (k + 1)) (F k)
        rw [show n - (k + 1) + 1 = n - k by omega] at h
        rw [List.range_succ, List.map_append]
        simpa using h
      have HX : Hid (Calls Try.prog 86 #[.int .i64 k, .pointer (some ⟨a, 0, none⟩), .pointer (some ⟨b, 0, none⟩), .pointer (some ⟨c, 0, none⟩)] wr fun e w' => e = .returned (.int .i64 (F k)) ∧ Below wr.heap.size wr w') := HC.out wr k hB hlt
      have hc0 := hown.cellAt k (by omega)
      have hcx : ∃ v0, (intCells ((List.range k).map F ++ List.replicate (n - k) 0))[k]? = some v0 := ⟨_, List.getElem?_eq_getElem (by simp [intCells]; omega)⟩
      obtain ⟨v0, hv0⟩ := hcx
      have hc1 := hc0.trans hv0
      have hfz := hown.frozenAt k
      clear HC hv0 hc0
      generalize F k = f at *
      have HO := Lib.hid hown
      have HBB := Lib.hid hB
      clear hown
      go_wp2_with (go_at_call 86; refine (HX.out).mono ?_; rintro e w2 ⟨rfl, hb2⟩; have hc2 := keepc hb2 hc1; have hf2 : w2.frozen? ⟨w.heap.size, k, none⟩ = false := ((bcell hb2).2 _ _ (World.block_lt_of_cell? wr _ hc1)).trans hfz)
      have hb3 := HBB.out.trans (hb2.mono HBB.out.size)
      have ho3 := (own_keep HO.out hb2).stored k (.int .i64 f)
      rw [HR.out] at ho3
      go_roundw
      case rel => exact ⟨k + 1, by omega, by go_num, ho3.1, hb3.setCell (by simp <;> omega) _⟩
      case measure => simp [intOf]; omega
    · obtain rfl : k = n := by omega
      go_wp2_with fail
      go_ret
      exact ⟨_, rfl, by simpa using hown, hB⟩


end Go.Proofs.Ythmngnfdfelkeaa
