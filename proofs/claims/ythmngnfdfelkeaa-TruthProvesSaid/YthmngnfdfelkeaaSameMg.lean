/-
  What is proved: the contracts of SameInts, SameBools and sample.
-/
import Derived.Test.YthmngnfdfelkeaaMg4
namespace Go.Proofs.Ythmngnfdfelkeaa
open Go.RowKit

theorem RowAt.bool {w : World} {A : Option Addr} {xs : List Bool} (h : RowAt w A (boolCells xs)) (h0 : 0 < xs.length) :
    ∃ b off, A = some ⟨b, off, none⟩ ∧ b < w.heap.size ∧ ∀ k (hk : k < xs.length), w.cell? ⟨b, off + k, none⟩ = some (.bool xs[k]) := by
  obtain ⟨b, off, e, hb, hc⟩ := h (by rw [boolCells_len]; exact h0)
  exact ⟨b, off, e, hb, fun k hk => hc k _ (by simp [boolCells, hk])⟩

theorem row_bk {w : World} {n : Nat} {t : TypeId} {cs : Array Value} {xs : List Value} (h : Bk w n t cs) (hx : cs.toList = xs) : RowAt w (some ⟨n, 0, none⟩) xs := by
  subst hx
  intro _
  refine ⟨n, 0, rfl, h.lt, fun j u hu => ?_⟩
  rw [Nat.zero_add, h.cell, ← Array.getElem?_toList]
  exact hu

set_option maxHeartbeats 2000000 in
theorem sameInts_any (A B : Option Addr) (c d : Nat) (xs ys : List Int) (w : World) (hx : RowAt w A (intCells xs)) (hy : RowAt w B (intCells ys)) (hn : xs.length ≤ 9223372036854775807) (hm : ys.length ≤ 9223372036854775807) :
    Calls Try.prog 24 #[.slice A xs.length c, .slice B ys.length d] w fun e w' => e = .returned (.bool (decide (xs = ys))) ∧ ∃ n, w' = w.drewN n := by
  by_cases hl : xs.length = ys.length
  · have HX := Lib.hid (And.intro hx hy)
    have HL : Hid (xs.length = ys.length) := hl
    clear hx hy
    rw [← hl]
    clear hl
    go_enter Try.func24, Try.ntmps24
    go_wp2
    go_loopw [5] (fun i wr => ∃ k n : Nat, k ≤ xs.length ∧ i = .int .i64 k ∧ Hid (∀ j, j < k → xs[j]? = ys[j]?) ∧ wr = w.drewN n) (fun i _ => xs.length - (intOf i).toNat)
    case atStart => exact ⟨0, 0, Nat.zero_le _, rfl, fun j h => absurd h (by omega), rfl⟩
    case round =>
      obtain ⟨k, n, hk, rfl, hall, rfl⟩ := hrel
      by_cases hlt : k < xs.length
      · obtain ⟨b1, o1, rfl, hb1, hc1⟩ := HX.out.1.int (by omega)
        obtain ⟨b2, o2, rfl, hb2, hc2⟩ := HX.out.2.int (by have := HL.out; omega)
        have x1 := hc1 k hlt
        have x2 := hc2 k (by have := HL.out; omega)
        have g1 : xs[k]? = some xs[k] := by simp
        have g2 : ys[k]? = some (ys[k]'(by have := HL.out; omega)) := by simp
        clear hc1 hc2
        generalize xs[k] = x at *
        generalize ys[k]'(by have := HL.out; omega) = y at *
        have G := Lib.hid (And.intro g1 g2)
        clear g1 g2
        have hkl : (k : Int) < (xs.length : Int) := by omega
        by_cases hxy : x = y
        · have h1 : (x == y) = true := by simpa using hxy
          go_wp2
          go_quiet (fail)
          go_wp2
          go_roundw
          case rel =>
            refine ⟨k + 1, _, by omega, by go_num, fun j hj => ?_, rfl⟩
            rcases Nat.lt_or_ge j k with h | h
            · exact hall.out j h
            · have : j = k := by omega
              subst this
              rw [G.out.1, G.out.2, hxy]
          case measure => simp [intOf]; omega
        · have h1 : (x == y) = false := by simpa using hxy
          go_wp2
          go_quiet (fail)
          go_wp2
          go_ret
          refine ⟨ret_bool ?_, _, World.drewN_drewN _ _ _⟩
          symm
          rw [decide_eq_false_iff_not]
          rintro rfl
          have := G.out.1.symm.trans G.out.2
          injection this with this
          exact hxy this
      · have : k = xs.length := by omega
        subst this
        go_wp2
        go_ret
        refine ⟨ret_bool ?_, n, rfl⟩
        symm
        rw [decide_eq_true_iff]
        refine List.ext_getElem? fun j => ?_
        rcases Nat.lt_or_ge j xs.length with h | h
        · exact hall.out j h
        · have := HL.out
          rw [List.getElem?_eq_none h, List.getElem?_eq_none (by omega)]
  · have hne : ((xs.length : Int) == (ys.length : Int)) = false := by simp; omega
    clear hx hy
    have HL := Lib.hid hl
    clear hl
    go_enter Try.func24, Try.ntmps24
    go_wp2
    go_ret
    refine ⟨ret_bool ?_, 0, rfl⟩
    symm
    rw [decide_eq_false_iff_not]
    rintro rfl
    exact HL.out rfl

set_option maxHeartbeats 2000000 in
theorem sameBools_any (A B : Option Addr) (c d : Nat) (xs ys : List Bool) (w : World) (hx : RowAt w A (boolCells xs)) (hy : RowAt w B (boolCells ys)) (hn : xs.length ≤ 9223372036854775807) (hm : ys.length ≤ 9223372036854775807) :
    Calls Try.prog 27 #[.slice A xs.length c, .slice B ys.length d] w fun e w' => e = .returned (.bool (decide (xs = ys))) ∧ ∃ n, w' = w.drewN n := by
  by_cases hl : xs.length = ys.length
  · have HX := Lib.hid (And.intro hx hy)
    have HL : Hid (xs.length = ys.length) := hl
    clear hx hy
    rw [← hl]
    clear hl
    go_enter Try.func27, Try.ntmps27
    go_wp2
    go_loopw [5] (fun i wr => ∃ k n : Nat, k ≤ xs.length ∧ i = .int .i64 k ∧ Hid (∀ j, j < k → xs[j]? = ys[j]?) ∧ wr = w.drewN n) (fun i _ => xs.length - (intOf i).toNat)
    case atStart => exact ⟨0, 0, Nat.zero_le _, rfl, fun j h => absurd h (by omega), rfl⟩
    case round =>
      obtain ⟨k, n, hk, rfl, hall, rfl⟩ := hrel
      by_cases hlt : k < xs.length
      · obtain ⟨b1, o1, rfl, hb1, hc1⟩ := HX.out.1.bool (by omega)
        obtain ⟨b2, o2, rfl, hb2, hc2⟩ := HX.out.2.bool (by have := HL.out; omega)
        have x1 := hc1 k hlt
        have x2 := hc2 k (by have := HL.out; omega)
        have g1 : xs[k]? = some xs[k] := by simp
        have g2 : ys[k]? = some (ys[k]'(by have := HL.out; omega)) := by simp
        clear hc1 hc2
        generalize xs[k] = x at *
        generalize ys[k]'(by have := HL.out; omega) = y at *
        have G := Lib.hid (And.intro g1 g2)
        clear g1 g2
        have hkl : (k : Int) < (xs.length : Int) := by omega
        by_cases hxy : x = y
        · have h1 : (x == y) = true := by simpa using hxy
          go_wp2
          go_quiet (fail)
          go_wp2
          go_roundw
          case rel =>
            refine ⟨k + 1, _, by omega, by go_num, fun j hj => ?_, rfl⟩
            rcases Nat.lt_or_ge j k with h | h
            · exact hall.out j h
            · have : j = k := by omega
              subst this
              rw [G.out.1, G.out.2, hxy]
          case measure => simp [intOf]; omega
        · have h1 : (x == y) = false := by simpa using hxy
          go_wp2
          go_quiet (fail)
          go_wp2
          go_ret
          refine ⟨ret_bool ?_, _, World.drewN_drewN _ _ _⟩
          symm
          rw [decide_eq_false_iff_not]
          rintro rfl
          have := G.out.1.symm.trans G.out.2
          injection this with this
          exact hxy this
      · have : k = xs.length := by omega
        subst this
        go_wp2
        go_ret
        refine ⟨ret_bool ?_, n, rfl⟩
        symm
        rw [decide_eq_true_iff]
        refine List.ext_getElem? fun j => ?_
        rcases Nat.lt_or_ge j xs.length with h | h
        · exact hall.out j h
        · have := HL.out
          rw [List.getElem?_eq_none h, List.getElem?_eq_none (by omega)]
  · have hne : ((xs.length : Int) == (ys.length : Int)) = false := by simp; omega
    clear hx hy
    have HL := Lib.hid hl
    clear hl
    go_enter Try.func27, Try.ntmps27
    go_wp2
    go_ret
    refine ⟨ret_bool ?_, 0, rfl⟩
    symm
    rw [decide_eq_false_iff_not]
    rintro rfl
    exact HL.out rfl

/-- The stone of the examples. -/
def sampleS (m : Int) : Stn := ⟨⟨1, 1, 4, [0, 0, 0, 0]⟩, [3, 1, 1, 1], [(1, 0), (0, 1), (-1, 0), (0, -1)], [((-6, 0), m), ((0, 7), 2)], 4⟩

set_option maxRecDepth 100000 in
set_option maxHeartbeats 2000000 in
theorem sample_any (m : Int) (w : World) : Calls Try.prog 60 #[.int .i64 m] w fun e w' => ∃ z, e = .returned (.agg #[.int .i64 1, .int .i64 1, .int .i64 4, .slice z.a1 4 z.c1, .slice z.a2 4 z.c2, .slice z.a3 4 z.c3, .slice z.a4 2 z.c4, .int .i64 4]) ∧ StAt w' (sampleS m) z ∧ Below w.heap.size w w' := by
  go_enter Try.func60, Try.ntmps60
  go_wp2_with fail
  refine bodyPost_ret (v := .agg #[.int .i64 1, .int .i64 1, .int .i64 4, .slice (some ⟨w.heap.size + 1, 0, none⟩) 4 4, .slice (some ⟨w.heap.size + 1 + 1, 0, none⟩) 4 4, .slice (some ⟨w.heap.size + 1 + 1 + 1, 0, none⟩) 4 4, .slice (some ⟨w.heap.size + 1 + 1 + 1 + 1, 0, none⟩) 2 2, .int .i64 4]) (by simp [results, Try.results60, go_sem]) rfl
    ⟨⟨some ⟨w.heap.size + 1, 0, none⟩, some ⟨w.heap.size + 1 + 1, 0, none⟩, some ⟨w.heap.size + 1 + 1 + 1, 0, none⟩, some ⟨w.heap.size + 1 + 1 + 1 + 1, 0, none⟩, 4, 4, 4, 2⟩, rfl, ⟨?_, ?_, ?_, ?_, by simp [sampleS], by simp [sampleS], by simp [sampleS], by simp [sampleS]⟩, ?_⟩
  · exact row_bk ((((bk_last (by simp)).alloc _).alloc _).alloc _) (by rfl)
  · exact row_bk (((bk_last (by simp)).alloc _).alloc _) (by rfl)
  · exact row_bk ((bk_last (by simp)).alloc _) (by rfl)
  · exact row_bk (bk_last (by simp)) (by rfl)
  · exact (((((Below.refl _ _).alloc (Nat.le_refl _) _).alloc (by simp) _).alloc (by simp; omega) _).alloc (by simp; omega) _).alloc (by simp; omega) _

end Go.Proofs.Ythmngnfdfelkeaa
