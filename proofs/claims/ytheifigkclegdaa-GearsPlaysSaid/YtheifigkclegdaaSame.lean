/-
  What is proved: the contracts of SameInts and of train.
-/
import Derived.Test.YtheifigkclegdaaTeeth
namespace Go.Proofs.Ytheifigkclegdaa
open Go.RowKit

def intCells (xs : List Int) : List Value := xs.map (.int .i64 ·)
theorem intCells_len (xs : List Int) : (intCells xs).length = xs.length := by simp [intCells]

theorem RowAt.int {w : World} {A : Option Addr} {xs : List Int} (h : RowAt w A (intCells xs)) (h0 : 0 < xs.length) :
    ∃ b off, A = some ⟨b, off, none⟩ ∧ b < w.heap.size ∧ ∀ k (hk : k < xs.length), w.cell? ⟨b, off + k, none⟩ = some (.int .i64 xs[k]) := by
  obtain ⟨b, off, e, hb, hc⟩ := h (by rw [intCells_len]; exact h0)
  exact ⟨b, off, e, hb, fun k hk => hc k _ (by simp [intCells, hk])⟩

set_option maxHeartbeats 2000000 in
theorem sameInts_any (A B : Option Addr) (c d : Nat) (xs ys : List Int) (w : World) (hx : RowAt w A (intCells xs)) (hy : RowAt w B (intCells ys)) (hn : xs.length ≤ 9223372036854775807) (hm : ys.length ≤ 9223372036854775807) :
    Calls Try.prog 22 #[.slice A xs.length c, .slice B ys.length d] w fun e w' => e = .returned (.bool (decide (xs = ys))) ∧ ∃ n, w' = w.drewN n := by
  by_cases hl : xs.length = ys.length
  · have HX := Lib.hid (And.intro hx hy)
    have HL : Hid (xs.length = ys.length) := hl
    clear hx hy
    rw [← hl]
    clear hl
    go_enter Try.func22, Try.ntmps22
    go_wp2
    go_loopw [5] (fun i wr => ∃ k n : Nat, k ≤ xs.length ∧ i = .int .i64 k ∧ Hid (∀ j, j < k → xs[j]? = ys[j]?) ∧ wr = w.drewN n) (fun i _ => xs.length - (intOf i).toNat)
    case atStart => exact ⟨0, 0, Nat.zero_le _, rfl, fun j h => absurd h (by omega), rfl⟩
    case round =>
      obtain ⟨k, n, hk, rfl, hall, rfl⟩ := hrel
      by_cases hlt : k < xs.length
      · obtain ⟨b1, o1, rfl, hb1, hc1⟩ := HX.out.1.int (by omega)
        obtain ⟨b2, o2, rfl, hb2, hc2⟩ := HX.out.2.int (by have := HL.out; omega)
        have x1 := hc1 k hlt
        have x2 := hc2 k (by have := HL.out; omega)
        have g1 : xs[k]? = some xs[k] := by simp
        have g2 : ys[k]? = some (ys[k]'(by have := HL.out; omega)) := by simp
        clear hc1 hc2
        generalize xs[k] = x at *
        generalize ys[k]'(by have := HL.out; omega) = y at *
        have G := Lib.hid (And.intro g1 g2)
        clear g1 g2
        have hkl : (k : Int) < (xs.length : Int) := by omega
        by_cases hxy : x = y
        · have h1 : (x == y) = true := by simpa using hxy
          go_wp2
          go_quiet (fail)
          go_wp2
          go_roundw
          case rel =>
            refine ⟨k + 1, _, by omega, by go_num, fun j hj => ?_, rfl⟩
            rcases Nat.lt_or_ge j k with h | h
            · exact hall.out j h
            · have : j = k := by omega
              subst this
              rw [G.out.1, G.out.2, hxy]
          case measure => simp [intOf]; omega
        · have h1 : (x == y) = false := by simpa using hxy
          go_wp2
          go_quiet (fail)
          go_wp2
          go_ret
          refine ⟨ret_bool ?_, _, World.drewN_drewN _ _ _⟩
          symm
          rw [decide_eq_false_iff_not]
          rintro rfl
          have := G.out.1.symm.trans G.out.2
          injection this with this
          exact hxy this
      · have : k = xs.length := by omega
        subst this
        go_wp2
        go_ret
        refine ⟨ret_bool ?_, n, rfl⟩
        symm
        rw [decide_eq_true_iff]
        refine List.ext_getElem? fun j => ?_
        rcases Nat.lt_or_ge j xs.length with h | h
        · exact hall.out j h
        · have := HL.out
          rw [List.getElem?_eq_none h, List.getElem?_eq_none (by omega)]
  · have hne : ((xs.length : Int) == (ys.length : Int)) = false := by simp; omega
    clear hx hy
    have HL := Lib.hid hl
    clear hl
    go_enter Try.func22, Try.ntmps22
    go_wp2
    go_ret
    refine ⟨ret_bool ?_, 0, rfl⟩
    symm
    rw [decide_eq_false_iff_not]
    rintro rfl
    exact HL.out rfl

def trainL : List Mesh := [⟨12, 8, 100⟩, ⟨10, 4, 0⟩]

set_option maxHeartbeats 1000000 in
theorem train_any (w : World) :
    Calls Try.prog 59 #[] w fun e w' => ∃ g, e = .returned (.agg #[.slice (some ⟨g, 0, none⟩) 2 2]) ∧ RowAt w' (some ⟨g, 0, none⟩) (meshCells trainL) ∧ Below w.heap.size w w' := by
  go_enter Try.func59, Try.ntmps59
  go_wp2
  refine bodyPost_ret (v := .agg #[.slice (some ⟨w.heap.size + 1, 0, none⟩) 2 2]) (by simp [results, Try.results59, go_sem]) rfl ⟨_, rfl, ?_, ((Below.refl _ _).alloc (Nat.le_refl _) _).alloc (by simp) _⟩
  intro _
  refine ⟨_, _, rfl, by simp, fun j u hu => ?_⟩
  match j with
  | 0 => simp [meshCells, trainL] at hu ⊢; exact hu
  | 1 => simp [meshCells, trainL] at hu ⊢; exact hu
  | 2 => simp [meshCells, trainL] at hu ⊢; exact hu
  | 3 => simp [meshCells, trainL] at hu ⊢; exact hu
  | 4 => simp [meshCells, trainL] at hu ⊢; exact hu
  | 5 => simp [meshCells, trainL] at hu ⊢; exact hu
  | j + 6 => simp [meshCells, trainL] at hu

end Go.Proofs.Ytheifigkclegdaa
