/-
  What is proved: the contract of ValidPattern.
-/
import Derived.Test.YtkikjmkpndmdcaaDressA
namespace Go.Proofs.Ytkikjmkpndmdcaa
open Go.RowKit

/-- A furrow. -/
structure Fur where
  at_ : Int
  from_ : Int
  lean : Int
  leans : Int
  steep : Int
  feather : Int
def Fur.cells (x : Fur) : List Value := [.int .i64 x.at_, .int .i64 x.from_, .int .i64 x.lean, .int .i64 x.leans, .int .i64 x.steep, .int .i64 x.feather]
theorem Fur.cells_len (x : Fur) : x.cells.length = 6 := rfl
def furCells (l : List Fur) : List Value := l.flatMap Fur.cells
def Fur.val (x : Fur) : Value := .agg #[.int .i64 x.at_, .int .i64 x.from_, .int .i64 x.lean, .int .i64 x.leans, .int .i64 x.steep, .int .i64 x.feather]
def fur0 : Fur := ⟨0, 0, 0, 0, 0, 0⟩
/-- A pattern. -/
structure Pat where
  eye : Int
  rings : Int
  harps : Int
  wide : Int
  furs : List Fur
def Pat.arr (p : Pat) (A : Option Addr) (c : Nat) : Array Value := #[.int .i64 p.eye, .int .i64 p.rings, .int .i64 p.harps, .int .i64 p.wide, .slice A p.furs.length c]
def furGood (wide rings : Int) (x : Fur) : Bool :=
  inB x.at_ 0 (wide - 1) && inB x.from_ 0 (rings - 1) && inB x.lean (-96) 96 && inB x.leans 1 96 && inB x.steep 1 wide && inB x.feather 0 wide && !decide (x.steep + x.feather ≥ wide)
def Pat.ok (p : Pat) : Bool :=
  inB p.eye 1 16 && inB p.rings 1 24 && inB p.harps 1 96 && inB p.wide 1 96 && inB (p.harps * p.wide) 2 96 && !decide ((p.furs.length : Int) > 16) && p.furs.all (furGood p.wide p.rings)

theorem fur_row {w : World} {A : Option Addr} {l : List Fur} (h : RowAt w A (furCells l)) (h0 : 0 < l.length) :
    ∃ b off, A = some ⟨b, off, none⟩ ∧ b < w.heap.size ∧ ∀ k, k < l.length → w.cell? ⟨b, off + k * 6, none⟩ = some (.int .i64 (l.getD k fur0).at_) ∧ w.cell? ⟨b, off + k * 6 + 1, none⟩ = some (.int .i64 (l.getD k fur0).from_) ∧ w.cell? ⟨b, off + k * 6 + 2, none⟩ = some (.int .i64 (l.getD k fur0).lean) ∧
      w.cell? ⟨b, off + k * 6 + 3, none⟩ = some (.int .i64 (l.getD k fur0).leans) ∧ w.cell? ⟨b, off + k * 6 + 4, none⟩ = some (.int .i64 (l.getD k fur0).steep) ∧ w.cell? ⟨b, off + k * 6 + 5, none⟩ = some (.int .i64 (l.getD k fur0).feather) := by
  have hl : (furCells l).length = l.length * 6 := flat_len _ 6 Fur.cells_len l
  obtain ⟨b, off, h1, h2, h3⟩ := h.some_ (by omega)
  refine ⟨b, off, h1, h2, fun k hk => ?_⟩
  have e := fun j (hj : j < 6) => flat_get Fur.cells 6 Fur.cells_len (by omega) l k j hk hj
  rw [getD_get _ _ hk]
  refine ⟨h3 _ _ (e 0 (by omega)), ?_, ?_, ?_, ?_, ?_⟩
  · rw [Nat.add_assoc]; exact h3 _ _ (e 1 (by omega))
  · rw [Nat.add_assoc]; exact h3 _ _ (e 2 (by omega))
  · rw [Nat.add_assoc]; exact h3 _ _ (e 3 (by omega))
  · rw [Nat.add_assoc]; exact h3 _ _ (e 4 (by omega))
  · rw [Nat.add_assoc]; exact h3 _ _ (e 5 (by omega))

set_option maxRecDepth 100000 in
set_option maxHeartbeats 8000000 in
theorem badFur_any (p : Pat) (A : Option Addr) (c q : Nat) (x : Fur) (w : World) (hq : Bk w q 24 (p.arr A c)) (hw : 1 ≤ p.wide ∧ p.wide ≤ 96) (hr : 1 ≤ p.rings ∧ p.rings ≤ 24) :
    Calls Try.prog 35 #[x.val, .pointer (some ⟨q, 0, none⟩)] w fun e w' => e = .returned (.bool (!furGood p.wide p.rings x)) ∧ Below w.heap.size w w' := by
  obtain ⟨at_, from_, lean, leans, steep, feather⟩ := x
  obtain ⟨eye, rings, harps, wide, furs⟩ := p
  simp only [Pat.arr, Fur.val, furGood] at *
  obtain ⟨W, hW⟩ : ∃ W, w.alloc (.cells #[.int .i64 at_, .int .i64 from_, .int .i64 lean, .int .i64 leans, .int .i64 steep, .int .i64 feather] 63) = W := ⟨_, rfl⟩
  have hbW : Below w.heap.size w W := by rw [← hW]; exact (Below.refl _ _).alloc (Nat.le_refl _) _
  have Y : Bk W w.heap.size 63 #[.int .i64 at_, .int .i64 from_, .int .i64 lean, .int .i64 leans, .int .i64 steep, .int .i64 feather] := by rw [← hW]; exact bk_last rfl
  have Q := hq.keep hbW
  have y0 := Y.cell 0
  have y1 := Y.cell 1
  have y2 := Y.cell 2
  have y3 := Y.cell 3
  have y4 := Y.cell 4
  have y5 := Y.cell 5
  have q1 := Q.cell 1
  have q3 := Q.cell 3
  simp at y0 y1 y2 y3 y4 y5 q1 q3
  have HW := Lib.hid hW
  clear hW hq Y Q
  cases h0 : inB at_ 0 (wide - 1)
  · skip
    go_enter Try.func35, Try.ntmps35
    go_upto_region 1 with fail
    rw [HW.out]
    clear HW
    go_wp2_with (go_at_call 33; refine (swithin_any _ _ _ _).mono ?_; rintro e w' ⟨rfl, rfl⟩)
    go_ret
    exact ⟨ret_bool (by first | rfl | (simp; done) | (simp [*]; done)), hbW⟩
  · cases h1 : inB from_ 0 (rings - 1)
    · skip
      go_enter Try.func35, Try.ntmps35
      go_upto_region 1 with fail
      rw [HW.out]
      clear HW
      go_wp2_with (go_at_call 33; refine (swithin_any _ _ _ _).mono ?_; rintro e w' ⟨rfl, rfl⟩)
      go_ret
      exact ⟨ret_bool (by first | rfl | (simp; done) | (simp [*]; done)), hbW⟩
    · cases h2 : inB lean (-96) 96
      · skip
        go_enter Try.func35, Try.ntmps35
        go_upto_region 1 with fail
        rw [HW.out]
        clear HW
        go_wp2_with (go_at_call 33; refine (swithin_any _ _ _ _).mono ?_; rintro e w' ⟨rfl, rfl⟩)
        go_ret
        exact ⟨ret_bool (by first | rfl | (simp; done) | (simp [*]; done)), hbW⟩
      · cases h3 : inB leans 1 96
        · skip
          go_enter Try.func35, Try.ntmps35
          go_upto_region 1 with fail
          rw [HW.out]
          clear HW
          go_wp2_with (go_at_call 33; refine (swithin_any _ _ _ _).mono ?_; rintro e w' ⟨rfl, rfl⟩)
          go_ret
          exact ⟨ret_bool (by first | rfl | (simp; done) | (simp [*]; done)), hbW⟩
        · cases h4 : inB steep 1 wide
          · skip
            go_enter Try.func35, Try.ntmps35
            go_upto_region 1 with fail
            rw [HW.out]
            clear HW
            go_wp2_with (go_at_call 33; refine (swithin_any _ _ _ _).mono ?_; rintro e w' ⟨rfl, rfl⟩)
            go_ret
            exact ⟨ret_bool (by first | rfl | (simp; done) | (simp [*]; done)), hbW⟩
          · cases h5 : inB feather 0 wide
            · skip
              go_enter Try.func35, Try.ntmps35
              go_upto_region 1 with fail
              rw [HW.out]
              clear HW
              go_wp2_with (go_at_call 33; refine (swithin_any _ _ _ _).mono ?_; rintro e w' ⟨rfl, rfl⟩)
              go_ret
              exact ⟨ret_bool (by first | rfl | (simp; done) | (simp [*]; done)), hbW⟩
            · have e5 := h4
              have e6 := h5
              simp only [inB, decide_eq_true_eq] at e5 e6
              have hsum := IntWalk.i64_in (steep + feather) (by omega)
              by_cases h7 : steep + feather ≥ wide
              · have d7 : decide (steep + feather ≥ wide) = true := decide_eq_true h7
                go_enter Try.func35, Try.ntmps35
                go_upto_region 1 with fail
                rw [HW.out]
                clear HW
                go_wp2_with (go_at_call 33; refine (swithin_any _ _ _ _).mono ?_; rintro e w' ⟨rfl, rfl⟩)
                go_ret
                exact ⟨ret_bool (by first | rfl | (simp; done) | (simp [*]; done)), hbW⟩
              · have d7 : decide (steep + feather ≥ wide) = false := decide_eq_false h7
                go_enter Try.func35, Try.ntmps35
                go_upto_region 1 with fail
                rw [HW.out]
                clear HW
                go_wp2_with (go_at_call 33; refine (swithin_any _ _ _ _).mono ?_; rintro e w' ⟨rfl, rfl⟩)
                go_ret
                exact ⟨ret_bool (by first | rfl | (simp; done) | (simp [*]; done)), hbW⟩

end Go.Proofs.Ytkikjmkpndmdcaa
