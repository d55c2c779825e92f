/-
  What is proved: the contract of counts.
  What is proved: plain facts about seating: which note judges which, and what the map of judges holds.
  What is proved: the contracts of nameOf, compareNames, known and when, with the count of draws.
-/
import Derived.Test.YteihcodicfoiaaaGreatMw29
import Derived.Test.YteihcodicfoiaaaGreatMw24
import Derived.Test.YteihcodicfoiaaaGreatMw3
import Derived.Lib.QuietBelow
namespace Go.Proofs.YteihcodicfoiaaaGreat
open Go.RowKit

theorem plain_eq {n' n : NoteD} (h : n'.plain = n.plain) : ∃ A c, n' = { n with sA := A, sc := c } := by
  cases n'
  cases n
  simp only [NoteD.plain, NoteD.mk.injEq] at h
  obtain ⟨rfl, rfl, rfl, rfl, rfl, rfl, rfl, rfl, rfl, rfl, rfl, rfl, rfl, rfl, rfl, rfl, _, _, rfl, rfl, rfl⟩ := h
  exact ⟨_, _, rfl⟩
attribute [local go_sem ↓] load_at68 load_run store_at68 store_run
set_option maxRecDepth 100000 in
set_option maxHeartbeats 4000000 in
theorem counts_any (r j : NoteD) (w : World) (h : j.At w) (hn : j.strokes.length ≤ 65536) :
    Calls Tryz.prog 133 #[.agg r.arr, .agg j.arr] w fun e w' => (∃ n' : NoteD, n'.plain = (countsN r j).plain ∧ n'.At w' ∧ (∀ a, n'.sA = some a → w.heap.size ≤ a.block) ∧ e = .returned (.agg n'.arr)) ∧ Below w.heap.size w w' := by
  obtain ⟨W, hW⟩ : ∃ W, ((w.alloc (.cells r.arr 68)).alloc (.cells j.arr 68)).alloc (.cells #[.int .i64 0, .int .i64 0, .int .i64 0, .int .i64 0, .int .i64 0, .int .i64 0, .int .i64 0, .int .i64 0, .int .i64 0, .int .i64 0, .int .i64 0, .int .i64 0, .int .i64 0, .int .i64 0, .int .i64 0, .slice none 0 0, .int .i64 0, .int .i64 0, .int .i64 0] 68) = W := ⟨_, rfl⟩
  have hbW : Below w.heap.size w W := by rw [← hW]; exact (((Below.refl _ _).alloc (Nat.le_refl _) _).alloc (by simp) _).alloc (by simp; omega) _
  have X := (show Bk W w.heap.size 68 r.arr by rw [← hW]; exact ((bk_last rfl).alloc _).alloc _)
  have Y := (show Bk W (w.heap.size + 1) 68 j.arr by rw [← hW]; exact (bk_last (by simp)).alloc _)
  have R := (show Bk W (w.heap.size + 2) 68 #[.int .i64 0, .int .i64 0, .int .i64 0, .int .i64 0, .int .i64 0, .int .i64 0, .int .i64 0, .int .i64 0, .int .i64 0, .int .i64 0, .int .i64 0, .int .i64 0, .int .i64 0, .int .i64 0, .int .i64 0, .slice none 0 0, .int .i64 0, .int .i64 0, .int .i64 0] by rw [← hW]; exact bk_last (by simp))
  have HC := Lib.hid (copied_any j W (NoteD.At.below h hbW) hn)
  have l0 := load68_eq j Y
  have HW := Lib.hid hW
  have HX := Lib.hid (And.intro X (And.intro Y R))
  clear hW X Y R h
  go_enter Tryz.func133, Tryz.ntmps133
  go_upto_region 1 with fail
  rw [HW.out]
  clear HW
  go_wp2_with fail
  refine HC.out.mono ?_
  rintro e w1 ⟨⟨n', hp, ha, hg, ht, rfl⟩, hb1⟩
  clear ht
  obtain ⟨q, hq⟩ : ∃ q, w1.heap.size = q := ⟨_, rfl⟩
  have hB1 := hbW.trans (hb1.mono hbW.size)
  have hlt := HX.out.2.2.lt
  have hsz1 := hb1.size
  have s1 := storeN_eq (ty := 68) (cs := n'.arr) (bk_last (w := w1) (t := 68) (cs := #[.int .i64 0, .int .i64 0, .int .i64 0, .int .i64 0, .int .i64 0, .int .i64 0, .int .i64 0, .int .i64 0, .int .i64 0, .int .i64 0, .int .i64 0, .int .i64 0, .int .i64 0, .int .i64 0, .int .i64 0, .slice none 0 0, .int .i64 0, .int .i64 0, .int .i64 0]) hq) (by kernel_rfl) rfl (arr_one _)
  have N : Bk ((w1.alloc (.cells #[.int .i64 0, .int .i64 0, .int .i64 0, .int .i64 0, .int .i64 0, .int .i64 0, .int .i64 0, .int .i64 0, .int .i64 0, .int .i64 0, .int .i64 0, .int .i64 0, .int .i64 0, .int .i64 0, .int .i64 0, .slice none 0 0, .int .i64 0, .int .i64 0, .int .i64 0] 68)).setRow q n'.arr) q 68 n'.arr := setRow_at (bk_last hq) _
  have X2 := ((HX.out.1.keep hb1).alloc (.cells #[.int .i64 0, .int .i64 0, .int .i64 0, .int .i64 0, .int .i64 0, .int .i64 0, .int .i64 0, .int .i64 0, .int .i64 0, .int .i64 0, .int .i64 0, .int .i64 0, .int .i64 0, .int .i64 0, .int .i64 0, .slice none 0 0, .int .i64 0, .int .i64 0, .int .i64 0] 68)).farRow (g := q) (by omega) n'.arr
  have Y2 := ((HX.out.2.1.keep hb1).alloc (.cells #[.int .i64 0, .int .i64 0, .int .i64 0, .int .i64 0, .int .i64 0, .int .i64 0, .int .i64 0, .int .i64 0, .int .i64 0, .int .i64 0, .int .i64 0, .int .i64 0, .int .i64 0, .int .i64 0, .int .i64 0, .slice none 0 0, .int .i64 0, .int .i64 0, .int .i64 0] 68)).farRow (g := q) (by omega) n'.arr
  have R2 := ((HX.out.2.2.keep hb1).alloc (.cells #[.int .i64 0, .int .i64 0, .int .i64 0, .int .i64 0, .int .i64 0, .int .i64 0, .int .i64 0, .int .i64 0, .int .i64 0, .int .i64 0, .int .i64 0, .int .i64 0, .int .i64 0, .int .i64 0, .int .i64 0, .slice none 0 0, .int .i64 0, .int .i64 0, .int .i64 0] 68)).farRow (g := q) (by omega) n'.arr
  have hB2 : Below w.heap.size w ((w1.alloc (.cells #[.int .i64 0, .int .i64 0, .int .i64 0, .int .i64 0, .int .i64 0, .int .i64 0, .int .i64 0, .int .i64 0, .int .i64 0, .int .i64 0, .int .i64 0, .int .i64 0, .int .i64 0, .int .i64 0, .int .i64 0, .slice none 0 0, .int .i64 0, .int .i64 0, .int .i64 0] 68)).setRow q n'.arr) := below_setRow (hB1.alloc (by omega) _) (by omega) _
  have hA2 : n'.At ((w1.alloc (.cells #[.int .i64 0, .int .i64 0, .int .i64 0, .int .i64 0, .int .i64 0, .int .i64 0, .int .i64 0, .int .i64 0, .int .i64 0, .int .i64 0, .int .i64 0, .int .i64 0, .int .i64 0, .int .i64 0, .int .i64 0, .slice none 0 0, .int .i64 0, .int .i64 0, .int .i64 0] 68)).setRow q n'.arr) := ha.below (below_setRow ((Below.refl _ _).alloc (Nat.le_refl _) _) (by omega) _)
  have HK := Lib.hid (And.intro N (And.intro X2 (And.intro Y2 (And.intro R2 (And.intro hB2 hA2)))))
  have HQ := Lib.hid (show w.heap.size + 2 < q by omega)
  have HAQ := Lib.hid (fun a (h : n'.sA = some a) => show a.block ≠ q by have := (hg a h).2; omega)
  have HAR := Lib.hid (fun a (h : n'.sA = some a) => show w.heap.size + 2 < a.block by have := (hg a h).1; omega)
  clear N X2 Y2 R2 hB2 hA2 HX HC hB1 hb1 l0 ha hg hbW hlt
  go_upto_region 2 with fail
  clear s1 hq
  generalize (w1.alloc _).setRow q _ = V at *
  obtain ⟨A, c, rfl⟩ := plain_eq hp
  clear hp
  have x0 := HK.out.2.1.cell 0
  have x1 := HK.out.2.1.cell 1
  have x2 := HK.out.2.1.cell 2
  have y18 := HK.out.2.2.1.cell 18
  have k0 := HK.out.1.fz 0
  have n0 := HK.out.1.cell 0
  have k1 := HK.out.1.fz 1
  have n1 := HK.out.1.cell 1
  have k2 := HK.out.1.fz 2
  have n2 := HK.out.1.cell 2
  have k4 := HK.out.1.fz 4
  have n4 := HK.out.1.cell 4
  have k16 := HK.out.1.fz 16
  have n16 := HK.out.1.cell 16
  have k17 := HK.out.1.fz 17
  have n17 := HK.out.1.cell 17
  have k18 := HK.out.1.fz 18
  have n18 := HK.out.1.cell 18
  have nl := HK.out.1.lt
  have hq0 : w.heap.size ≠ q := by have := HQ.out; omega
  have hq1 : w.heap.size + 1 ≠ q := by have := HQ.out; omega
  simp [NoteD.arr] at x0 x1 x2 y18 n0 n1 n2 n4 n16 n17 n18
  go_region
  have hq2 : w.heap.size + 2 ≠ q := by have := HQ.out; omega
  have hq3 : w.heap.size ≤ q := by have := HQ.out; omega
  have hAq : ∀ a, A = some a → a.block ≠ q := HAQ.out
  have M0 : Bk (((((((V.setCell ⟨q, 0, none⟩ (.int .i64 r.house)).setCell ⟨q, 1, none⟩ (.int .i64 r.num)).setCell ⟨q, 2, none⟩ (.int .i64 r.clock)).setCell ⟨q, 4, none⟩ (.int .i64 j.fix)).setCell ⟨q, 18, none⟩ (.int .i64 0)).setCell ⟨q, 16, none⟩ (.int .i64 0)).setCell ⟨q, 17, none⟩ (.int .i64 0)).drew q 68 (NoteD.arr { j with sA := A, sc := c, house := r.house, num := r.num, clock := r.clock, kind := j.fix, fix := 0, rh := 0, rn := 0 }) := Bk.drew (((((((HK.out.1.put 0 (.int .i64 r.house)).put 1 (.int .i64 r.num)).put 2 (.int .i64 r.clock)).put 4 (.int .i64 j.fix)).put 18 (.int .i64 0)).put 16 (.int .i64 0)).put 17 (.int .i64 0))
  have R0 := Bk.drew (((((((HK.out.2.2.2.1.far (p := ⟨q, 0, none⟩) hq2 (.int .i64 r.house)).far (p := ⟨q, 1, none⟩) hq2 (.int .i64 r.num)).far (p := ⟨q, 2, none⟩) hq2 (.int .i64 r.clock)).far (p := ⟨q, 4, none⟩) hq2 (.int .i64 j.fix)).far (p := ⟨q, 18, none⟩) hq2 (.int .i64 0)).far (p := ⟨q, 16, none⟩) hq2 (.int .i64 0)).far (p := ⟨q, 17, none⟩) hq2 (.int .i64 0))
  have X0 := Bk.drew (((((((HK.out.2.1.far (p := ⟨q, 0, none⟩) hq0 (.int .i64 r.house)).far (p := ⟨q, 1, none⟩) hq0 (.int .i64 r.num)).far (p := ⟨q, 2, none⟩) hq0 (.int .i64 r.clock)).far (p := ⟨q, 4, none⟩) hq0 (.int .i64 j.fix)).far (p := ⟨q, 18, none⟩) hq0 (.int .i64 0)).far (p := ⟨q, 16, none⟩) hq0 (.int .i64 0)).far (p := ⟨q, 17, none⟩) hq0 (.int .i64 0))
  have B0 := Below.drew (((((((HK.out.2.2.2.2.1.setCell (p := ⟨q, 0, none⟩) hq3 (.int .i64 r.house)).setCell (p := ⟨q, 1, none⟩) hq3 (.int .i64 r.num)).setCell (p := ⟨q, 2, none⟩) hq3 (.int .i64 r.clock)).setCell (p := ⟨q, 4, none⟩) hq3 (.int .i64 j.fix)).setCell (p := ⟨q, 18, none⟩) hq3 (.int .i64 0)).setCell (p := ⟨q, 16, none⟩) hq3 (.int .i64 0)).setCell (p := ⟨q, 17, none⟩) hq3 (.int .i64 0))
  have A0 : RowAt (((((((V.setCell ⟨q, 0, none⟩ (.int .i64 r.house)).setCell ⟨q, 1, none⟩ (.int .i64 r.num)).setCell ⟨q, 2, none⟩ (.int .i64 r.clock)).setCell ⟨q, 4, none⟩ (.int .i64 j.fix)).setCell ⟨q, 18, none⟩ (.int .i64 0)).setCell ⟨q, 16, none⟩ (.int .i64 0)).setCell ⟨q, 17, none⟩ (.int .i64 0)).drew A (intCells j.strokes) := RowAt.drew_ (RowAt.farA (RowAt.farA (RowAt.farA (RowAt.farA (RowAt.farA (RowAt.farA (RowAt.farA HK.out.2.2.2.2.2 (p := ⟨q, 0, none⟩) (fun a h => hAq a h) (.int .i64 r.house)) (p := ⟨q, 1, none⟩) (fun a h => hAq a h) (.int .i64 r.num)) (p := ⟨q, 2, none⟩) (fun a h => hAq a h) (.int .i64 r.clock)) (p := ⟨q, 4, none⟩) (fun a h => hAq a h) (.int .i64 j.fix)) (p := ⟨q, 18, none⟩) (fun a h => hAq a h) (.int .i64 0)) (p := ⟨q, 16, none⟩) (fun a h => hAq a h) (.int .i64 0)) (p := ⟨q, 17, none⟩) (fun a h => hAq a h) (.int .i64 0))
  clear x0 x1 x2 y18 n0 n1 n2 n4 n18 n16 n17 k0 k1 k2 k4 k18 k16 k17 nl HK
  generalize ((((((((V.setCell ⟨q, 0, none⟩ (.int .i64 r.house)).setCell ⟨q, 1, none⟩ (.int .i64 r.num)).setCell ⟨q, 2, none⟩ (.int .i64 r.clock)).setCell ⟨q, 4, none⟩ (.int .i64 j.fix)).setCell ⟨q, 18, none⟩ (.int .i64 0)).setCell ⟨q, 16, none⟩ (.int .i64 0)).setCell ⟨q, 17, none⟩ (.int .i64 0))).drew = U at *
  have m4 := M0.cell 4
  simp [NoteD.arr] at m4
  by_cases hfix : j.fix = 2
  · have bfix : (j.fix == 2) = true := by simpa using hfix
    have x16 := X0.cell 16
    have x17 := X0.cell 17
    have m16 := M0.cell 16
    have m17 := M0.cell 17
    have g16 := M0.fz 16
    have g17 := M0.fz 17
    have ml := M0.lt
    simp [NoteD.arr] at x16 x17 m16 m17
    have M1 : Bk ((U.setCell ⟨q, 16, none⟩ (.int .i64 r.rh)).setCell ⟨q, 17, none⟩ (.int .i64 r.rn)) q 68 (NoteD.arr { j with sA := A, sc := c, house := r.house, num := r.num, clock := r.clock, kind := j.fix, fix := 0, rh := r.rh, rn := r.rn }) := (M0.put 16 (.int .i64 r.rh)).put 17 (.int .i64 r.rn)
    have R1 := (R0.far (p := ⟨q, 16, none⟩) hq2 (.int .i64 r.rh)).far (p := ⟨q, 17, none⟩) hq2 (.int .i64 r.rn)
    have B1 := (B0.setCell (p := ⟨q, 16, none⟩) hq3 (.int .i64 r.rh)).setCell (p := ⟨q, 17, none⟩) hq3 (.int .i64 r.rn)
    have A1 := (A0.farA (p := ⟨q, 16, none⟩) (fun a h => hAq a h) (.int .i64 r.rh)).farA (p := ⟨q, 17, none⟩) (fun a h => hAq a h) (.int .i64 r.rn)
    obtain ⟨m, hm⟩ : ∃ m : NoteD, m = { j with sA := A, sc := c, house := r.house, num := r.num, clock := r.clock, kind := j.fix, fix := 0, rh := r.rh, rn := r.rn } := ⟨_, rfl⟩
    have HM := Lib.hid (show m.plain = (countsN r j).plain ∧ Bk ((U.setCell ⟨q, 16, none⟩ (.int .i64 r.rh)).setCell ⟨q, 17, none⟩ (.int .i64 r.rn)) q 68 m.arr ∧ Bk ((U.setCell ⟨q, 16, none⟩ (.int .i64 r.rh)).setCell ⟨q, 17, none⟩ (.int .i64 r.rn)) (w.heap.size + 2) 68 _ ∧ Below w.heap.size w ((U.setCell ⟨q, 16, none⟩ (.int .i64 r.rh)).setCell ⟨q, 17, none⟩ (.int .i64 r.rn)) ∧ m.At ((U.setCell ⟨q, 16, none⟩ (.int .i64 r.rh)).setCell ⟨q, 17, none⟩ (.int .i64 r.rn)) ∧ ∀ a, m.sA = some a → w.heap.size + 2 < a.block from by
      rw [hm]
      exact ⟨by unfold countsN; rw [if_pos hfix]; rfl, M1, R1, B1, A1, HAR.out⟩)
    clear hm M1 R1 B1 A1 M0 R0 X0 B0 A0
    go_upto_region 5 with fail
    clear x16 x17 m16 m17 g16 g17 ml m4
    generalize (U.setCell _ _).setCell _ _ = U at *
    have l7 := load68_eq m HM.out.2.1
    have s2 := storeN_eq (ty := 68) (cs := m.arr) HM.out.2.2.1 (by kernel_rfl) rfl (arr_one _)
    have Y9 : Bk (U.setRow (w.heap.size + 2) m.arr) (w.heap.size + 2) 68 m.arr := setRow_at HM.out.2.2.1 _
    have B9 : Below w.heap.size w (U.setRow (w.heap.size + 2) m.arr) := below_setRow HM.out.2.2.2.1 (by omega) _
    have A9 : m.At (U.setRow (w.heap.size + 2) m.arr) := RowAt.of_heap HM.out.2.2.2.2.1 (fun a h => setRow_other (by have := HM.out.2.2.2.2.2 a h; omega) _) (by rw [setRow_size]; exact Nat.le_refl _)
    have H9 := Lib.hid (And.intro Y9 (And.intro B9 A9))
    clear Y9 B9 A9
    go_wp2_with fail
    refine bodyPost_ret (v := .agg m.arr) (results_cell_row rfl _ _ _ 68 _ (0, 0) _ rfl H9.out.1 Tryz.underlying68 rfl (by kernel_rfl)) rfl ?_
    exact ⟨⟨m, HM.out.1, H9.out.2.2, fun a h => by have := HM.out.2.2.2.2.2 a h; omega, rfl⟩, H9.out.2.1⟩
  · have bfix : (j.fix == 2) = false := by simpa using hfix
    obtain ⟨m, hm⟩ : ∃ m : NoteD, m = { j with sA := A, sc := c, house := r.house, num := r.num, clock := r.clock, kind := j.fix, fix := 0, rh := 0, rn := 0 } := ⟨_, rfl⟩
    have HM := Lib.hid (show m.plain = (countsN r j).plain ∧ Bk U q 68 m.arr ∧ Bk U (w.heap.size + 2) 68 _ ∧ Below w.heap.size w U ∧ m.At U ∧ ∀ a, m.sA = some a → w.heap.size + 2 < a.block from by
      rw [hm]
      exact ⟨by unfold countsN; rw [if_neg hfix]; rfl, M0, R0, B0, A0, HAR.out⟩)
    clear hm M0 R0 X0 B0 A0
    go_upto_region 5 with fail
    clear m4
    have l7 := load68_eq m HM.out.2.1
    have s2 := storeN_eq (ty := 68) (cs := m.arr) HM.out.2.2.1 (by kernel_rfl) rfl (arr_one _)
    have Y9 : Bk (U.setRow (w.heap.size + 2) m.arr) (w.heap.size + 2) 68 m.arr := setRow_at HM.out.2.2.1 _
    have B9 : Below w.heap.size w (U.setRow (w.heap.size + 2) m.arr) := below_setRow HM.out.2.2.2.1 (by omega) _
    have A9 : m.At (U.setRow (w.heap.size + 2) m.arr) := RowAt.of_heap HM.out.2.2.2.2.1 (fun a h => setRow_other (by have := HM.out.2.2.2.2.2 a h; omega) _) (by rw [setRow_size]; exact Nat.le_refl _)
    have H9 := Lib.hid (And.intro Y9 (And.intro B9 A9))
    clear Y9 B9 A9
    go_wp2_with fail
    refine bodyPost_ret (v := .agg m.arr) (results_cell_row rfl _ _ _ 68 _ (0, 0) _ rfl H9.out.1 Tryz.underlying68 rfl (by kernel_rfl)) rfl ?_
    exact ⟨⟨m, HM.out.1, H9.out.2.2, fun a h => by have := HM.out.2.2.2.2.2 a h; omega, rfl⟩, H9.out.2.1⟩

end Go.Proofs.YteihcodicfoiaaaGreat
namespace Go.Proofs.YteihcodicfoiaaaGreat
open Go.RowKit

theorem best_snoc {l : List NoteD} {x : NoteD} (hn : ∀ a ∈ l ++ [x], ∀ b ∈ l ++ [x], a.name = b.name → a = b) :
    best (l ++ [x]) = match best l with
      | none => some x
      | some y => if knownC y x < 0 then some x else some y := by
  cases h : best l with
  | none =>
    rw [best_none h]
    rfl
  | some y =>
    have h1 := best_mem h
    have h2 := best_le h
    simp only
    split
    · rename_i hlt
      rw [knownC_lt] at hlt
      refine best_eq (by simp) hn fun z hz => ?_
      rcases List.mem_append.1 hz with hz | hz
      · intro g
        exact h2 z hz (knownLt_trans hlt g)
      · simp at hz
        subst hz
        exact fun g => knownLt_asymm g g
    · rename_i hlt
      rw [knownC_lt] at hlt
      refine best_eq (by simp [h1]) hn fun z hz => ?_
      rcases List.mem_append.1 hz with hz | hz
      · exact h2 z hz
      · simp at hz
        subst hz
        exact hlt

def noteOf (l : List NoteD) (k : Int × Int) : Option NoteD := l.find? fun n => n.name == k
theorem noteOf_some {l : List NoteD} {k : Int × Int} {n : NoteD} (h : noteOf l k = some n) : n ∈ l ∧ n.name = k := by
  unfold noteOf at h
  refine ⟨List.mem_of_find?_eq_some h, ?_⟩
  have := List.find?_some h
  simpa using this
theorem noteOf_mem {l : List NoteD} (hn : (l.map NoteD.name).Nodup) {n : NoteD} (h : n ∈ l) : noteOf l n.name = some n := by
  cases h2 : noteOf l n.name with
  | none =>
    unfold noteOf at h2
    rw [List.find?_eq_none] at h2
    have := h2 n h
    simp at this
  | some m =>
    obtain ⟨h3, h4⟩ := noteOf_some h2
    rw [names_inj hn h3 h h4]
theorem lookF_setFn : ∀ (l : List NoteD) (k : Int × Int), lookF (setFn l) k = (noteOf l k).map fun n => .agg n.arr
  | [], _ => rfl
  | x :: l, k => by
    have ih := lookF_setFn l k
    unfold lookF noteOf setFn at *
    simp only [List.map_cons, findIx, List.find?_cons]
    by_cases h : x.name = k
    · rw [if_pos h]
      simp [h]
    · rw [if_neg h, findIx_shift]
      have : (x.name == k) = false := by simpa using h
      rw [this]
      simp only
      rw [← ih, Option.map_map]
      cases findIx k (List.map (fun n => (n.name, Value.agg n.arr)) l) 0 <;> rfl

/-- A note that judges another one. -/
def seated (l : List NoteD) (x : NoteD) : Bool := !isDone x && (match noteOf l x.ref with
  | some r => isDone r && judgesB x r
  | none => false)
def heldFor (l : List NoteD) (k : Int × Int) (x : NoteD) : Bool := seated l x && x.ref == k
/-- What the map of judges holds when D is handed out. -/
def JudgeOf (l D : List NoteD) (J : NameF) : Prop := ∀ k, lookF J k = (best (D.filter (heldFor l k))).map fun n => .agg n.arr
theorem JudgeOf.nil (l : List NoteD) : JudgeOf l [] [] := fun _ => rfl
theorem JudgeOf.out {l D : List NoteD} {J : NameF} (h : JudgeOf l D J) {x : NoteD} (hx : seated l x = false) : JudgeOf l (D ++ [x]) J := fun k => by
  rw [List.filter_append]
  have : heldFor l k x = false := by unfold heldFor; rw [hx]; rfl
  rw [List.filter_cons, this]
  simp only [Bool.false_eq_true, if_false, List.filter_nil, List.append_nil]
  exact h k
theorem filter_inj {D : List NoteD} {x : NoteD} (hn : ∀ a ∈ D ++ [x], ∀ b ∈ D ++ [x], a.name = b.name → a = b) (p : NoteD → Bool) : ∀ a ∈ D.filter p ++ [x], ∀ b ∈ D.filter p ++ [x], a.name = b.name → a = b := by
  have hs : ∀ a ∈ D.filter p ++ [x], a ∈ D ++ [x] := by
    intro a ha
    rcases List.mem_append.1 ha with ha | ha
    · exact List.mem_append_left _ (List.mem_filter.1 ha).1
    · exact List.mem_append_right _ ha
  exact fun a ha b hb => hn a (hs a ha) b (hs b hb)
theorem JudgeOf.keep {l D : List NoteD} {J : NameF} (h : JudgeOf l D J) {x y : NoteD} (hn : ∀ a ∈ D ++ [x], ∀ b ∈ D ++ [x], a.name = b.name → a = b) (hx : seated l x = true) (hy : best (D.filter (heldFor l x.ref)) = some y) (hk : ¬ knownC y x < 0) : JudgeOf l (D ++ [x]) J := fun k => by
  rw [List.filter_append]
  by_cases hr : x.ref = k
  · subst hr
    have : heldFor l x.ref x = true := by unfold heldFor; rw [hx]; simp
    rw [List.filter_cons, this]
    simp only [if_true, List.filter_nil]
    rw [best_snoc (filter_inj hn _), hy]
    simp only
    rw [if_neg hk, h x.ref, hy]
  · have : heldFor l k x = false := by unfold heldFor; simp [hr]
    rw [List.filter_cons, this]
    simp only [Bool.false_eq_true, if_false, List.filter_nil, List.append_nil]
    exact h k
theorem JudgeOf.put {l D : List NoteD} {J : NameF} (h : JudgeOf l D J) (hJ : (J.map Prod.fst).Nodup) {x : NoteD} (hn : ∀ a ∈ D ++ [x], ∀ b ∈ D ++ [x], a.name = b.name → a = b) (hx : seated l x = true)
    (hy : ∀ y, best (D.filter (heldFor l x.ref)) = some y → knownC y x < 0) : JudgeOf l (D ++ [x]) (setF J x.ref (.agg x.arr)) := fun k => by
  rw [List.filter_append, lookF_setF hJ]
  by_cases hr : x.ref = k
  · subst hr
    have : heldFor l x.ref x = true := by unfold heldFor; rw [hx]; simp
    rw [List.filter_cons, this]
    simp only [if_true, List.filter_nil]
    rw [best_snoc (filter_inj hn _)]
    cases hb : best (D.filter (heldFor l x.ref)) with
    | none => rfl
    | some y =>
      simp only
      rw [if_pos (hy y hb)]
      rfl
  · have : heldFor l k x = false := by unfold heldFor; simp [hr]
    rw [List.filter_cons, this]
    simp only [Bool.false_eq_true, if_false, List.filter_nil, List.append_nil]
    rw [if_neg (Ne.symm hr)]
    exact h k

theorem heldFor_cand {l : List NoteD} (hn : (l.map NoteD.name).Nodup) {n x : NoteD} (h : n ∈ l) (hd : isDone n = true) : heldFor l n.name x = cand n x := by
  unfold heldFor seated cand
  by_cases hr : x.ref = n.name
  · rw [hr, noteOf_mem hn h]
    simp [hd]
  · have : (x.ref == n.name) = false := by simpa using hr
    rw [this]
    simp
theorem best_perm {l m : List NoteD} (hp : l.Perm m) (hn : ∀ a ∈ m, ∀ b ∈ m, a.name = b.name → a = b) : best l = best m := by
  cases h : best m with
  | none =>
    have := best_none h
    subst this
    rw [List.Perm.eq_nil hp]
    rfl
  | some y =>
    refine best_eq (hp.mem_iff.2 (best_mem h)) (fun a ha b hb => hn a (hp.mem_iff.1 ha) b (hp.mem_iff.1 hb)) fun x hx => best_le h x (hp.mem_iff.1 hx)
/-- Behind the range: the judge of a done note. -/
theorem JudgeOf.done {l D : List NoteD} {J : NameF} (h : JudgeOf l D J) (hp : D.Perm l) (hn : (l.map NoteD.name).Nodup) {n : NoteD} (hm : n ∈ l) (hd : isDone n = true) : lookF J n.name = (best (l.filter (cand n))).map fun n => .agg n.arr := by
  rw [h n.name]
  have e : heldFor l n.name = cand n := by funext x; exact heldFor_cand hn hm hd
  rw [e, best_perm (hp.filter _) (fun a ha b hb => names_inj hn (List.mem_filter.1 ha).1 (List.mem_filter.1 hb).1)]
theorem unFn {l : List NoteD} {D : NameF} : (∀ x ∈ D, x ∈ setFn l) → ∃ Dn : List NoteD, D = setFn Dn ∧ ∀ n ∈ Dn, n ∈ l := by
  induction D with
  | nil => exact fun _ => ⟨[], rfl, by simp⟩
  | cons x D ih =>
    intro h
    obtain ⟨Dn, h1, h2⟩ := ih fun y hy => h y (by simp [hy])
    obtain ⟨n, h3, h4⟩ := List.mem_map.1 (h x (by simp))
    refine ⟨n :: Dn, ?_, fun m hm => ?_⟩
    · rw [h1, ← h4]
      rfl
    · rcases List.mem_cons.1 hm with rfl | hm
      · exact h3
      · exact h2 m hm
end Go.Proofs.YteihcodicfoiaaaGreat
namespace Go.Proofs.YteihcodicfoiaaaGreat
open Go.RowKit
open Go.Sort (grow)

def BelD (w w' : World) : Prop := Below w.heap.size w w' ∧ w.drawn ≤ w'.drawn
theorem BelD.grown {w w' : World} (h : BelD w w') : ∃ q os, w' = grow (w.drewN q) os := by
  obtain ⟨p, hp⟩ := regrown_of_below h.1
  have hd : w'.drawn = p.d := by rw [hp]; rfl
  refine ⟨p.d - w.drawn, p.os, ?_⟩
  have h2 := h.2
  have e : w.drawn + (p.d - w.drawn) = p.d := by omega
  rw [hp]
  show grow { w with drawn := p.d } p.os = grow { w with drawn := w.drawn + (p.d - w.drawn) } p.os
  rw [e]
variable {P : Program}
def ExtD (w : World) : Type := { x : World // BelD w x }
instance extDInhabited (w : World) : Nonempty (ExtD w) := ⟨⟨w, Below.refl _ _, Nat.le_refl _⟩⟩
def ExtD.w {w : World} (x : ExtD w) : World := x.1
theorem ExtD.bel {w : World} (x : ExtD w) : Below w.heap.size w x.w := x.2.1
theorem ExtD.dr {w : World} (x : ExtD w) : w.drawn ≤ x.w.drawn := x.2.2
theorem ExtD.here (w : World) : ∃ x : ExtD w, { w with drawn := w.drawn + 1 } = x.w := ⟨⟨{ w with drawn := w.drawn + 1 }, ⟨rfl, rfl, rfl, Nat.le_refl _, fun _ _ => rfl⟩, Nat.le_succ _⟩, rfl⟩
theorem extD_of {f : FuncId} {args : Array Value} {w : World} {x : ExtD w} {v : Value} (h : Calls P f args x.w fun e w' => e = .returned v ∧ BelD x.w w') :
    Calls P f args x.w fun e w'' => e = .returned v ∧ ∃ y : ExtD w, w'' = y.w :=
  h.mono fun _ _ ⟨he, hb⟩ => ⟨he, ⟨_, x.bel.trans (hb.1.mono x.bel.size), Nat.le_trans x.dr hb.2⟩, rfl⟩
theorem extD_same {f : FuncId} {args : Array Value} {w : World} {x : ExtD w} {v : Value} (h : Calls P f args x.w fun e w' => e = .returned v ∧ x.w = w') :
    Calls P f args x.w fun e w'' => e = .returned v ∧ ∃ y : ExtD w, w'' = y.w :=
  h.mono fun _ _ ⟨he, hb⟩ => ⟨he, x, hb.symm⟩
theorem wp_region_extD {id : Nat} {Q : Exit → Act → World → Prop} {a : Act} {w : World} {l : List Oper} (n : Nat) (hm : P.follows .mixedOrders = true) (hB : mixB .any l.toArray n = true)
    (hQ : ∀ c a (d : Option Tmp) (v : Value) w, Q (.panic c) (a.put d v) w → Q (.panic c) a w)
    (h : wpQuiet P l.toArray (fun w' => ∃ x : ExtD w, w' = x.w) (fun a' => ∀ w', (∃ x : ExtD w, w' = x.w) → wpList P l.toArray Q (l.drop n) a' w') (l.take n) a) : (Code.region id l.toArray true).wp P Q a w :=
  wp_region_mix n hm hB hQ (ExtD.here w) h

set_option maxRecDepth 100000 in
set_option maxHeartbeats 4000000 in
theorem nameOf_anyD (n : NoteD) (w : World) :
    Calls Tryz.prog 73 #[.agg n.arr] w fun e w' => e = .returned (.agg #[.int .i64 n.house, .int .i64 n.num]) ∧ BelD w w' := by
  obtain ⟨W, hW⟩ : ∃ W, (w.alloc (.cells n.arr 68)).alloc (.cells #[.int .i64 0, .int .i64 0] 66) = W := ⟨_, rfl⟩
  have hbW : Below w.heap.size w W := by rw [← hW]; exact ((Below.refl _ _).alloc (Nat.le_refl _) _).alloc (by simp) _
  have hdW : w.drawn ≤ W.drawn := by rw [← hW]; exact Nat.le_refl _
  have X := (show Bk W w.heap.size 68 n.arr by rw [← hW]; exact (bk_last rfl).alloc _)
  have Y := (show Bk W (w.heap.size + 1) 66 #[.int .i64 0, .int .i64 0] by rw [← hW]; exact bk_last (by simp))
  unfold NoteD.arr at *
  have x0 := X.cell 0
  have x1 := X.cell 1
  have y0 := Y.cell 0
  have y1 := Y.cell 1
  have z0 := Y.fz 0
  have z1 := Y.fz 1
  have zl := Y.lt
  simp at x0 x1 y0 y1
  have HW := Lib.hid hW
  clear hW X Y
  go_enter Tryz.func73, Tryz.ntmps73
  go_upto_region 1 with fail
  rw [HW.out]
  clear HW
  go_wp2_with fail
  refine bodyPost_ret (v := .agg #[.int .i64 n.house, .int .i64 n.num]) (by simp [results, Tryz.results73, go_sem, y0, y1, zl]) rfl ?_
  exact ⟨rfl, (hbW.setCell (by simp) _).setCell (by simp) _, hdW⟩

set_option maxRecDepth 100000 in
set_option maxHeartbeats 4000000 in
theorem compareNames_anyD (a b : Int × Int) (w : World) : Calls Tryz.prog 90 #[nameV a.1 a.2, nameV b.1 b.2] w fun e w' => e = .returned (.int .i64 (cmpName a b)) ∧ BelD w w' := by
  obtain ⟨a1, a2⟩ := a
  obtain ⟨b1, b2⟩ := b
  have HV : Hid (cmpName (a1, a2) (b1, b2) = orV [cmpI a1 b1, cmpI a2 b2]) := by rw [orV_two]; exact Lib.hid rfl
  simp only
  unfold nameV
  obtain ⟨W, hW⟩ : ∃ W, (w.alloc (.cells #[.int .i64 a1, .int .i64 a2] 66)).alloc (.cells #[.int .i64 b1, .int .i64 b2] 66) = W := ⟨_, rfl⟩
  have hbW : Below w.heap.size w W := by rw [← hW]; exact ((Below.refl _ _).alloc (Nat.le_refl _) _).alloc (by simp) _
  have hdW : w.drawn ≤ W.drawn := by rw [← hW]; exact Nat.le_refl _
  have Y : Bk W w.heap.size 66 #[.int .i64 a1, .int .i64 a2] := by rw [← hW]; exact (bk_last rfl).alloc _
  have Z : Bk W (w.heap.size + 1) 66 #[.int .i64 b1, .int .i64 b2] := by rw [← hW]; exact bk_last (by simp)
  have y0 := Y.cell 0
  have y1 := Y.cell 1
  have z0 := Z.cell 0
  have z1 := Z.cell 1
  simp at y0 y1 z0 z1
  have HW := Lib.hid hW
  clear hW Y Z
  go_enter Tryz.func90, Tryz.ntmps90
  go_upto_region 1 with fail
  rw [HW.out]
  clear HW
  refine wp_region_extD 10 (by kernel_rfl) (by kernel_rfl) (fun _ _ d _ _ h => by cases d <;> exact h) ?_
  simp only [List.take_succ_cons, List.take_zero, List.drop_succ_cons, List.drop_zero]
  replace y0 := fun x : ExtD W => keepc x.bel y0
  replace y1 := fun x : ExtD W => keepc x.bel y1
  replace z0 := fun x : ExtD W => keepc x.bel z0
  replace z1 := fun x : ExtD W => keepc x.bel z1
  repeat (go_big_quiet_step ((go_at_call 129; exact extD_same (cmpI_any _ _ _))))
  refine wpQuiet_nil ?_
  rintro _ ⟨y, rfl⟩
  clear y0 y1 z0 z1
  have hb2 := y.bel
  have hd2 := y.dr
  generalize y.w = w2 at hb2 hd2 ⊢
  have hB := hbW.trans (hb2.mono hbW.size)
  generalize cmpI a1 b1 = q0 at *
  generalize cmpI a2 b2 = q1 at *
  have hR : RowAt (w2.alloc (.cells #[.int .i64 q0, .int .i64 q1] 3)) (some ⟨w2.heap.size, 0, none⟩) (intCells [q0, q1]) := fun _ => ⟨w2.heap.size, 0, rfl, by simp, fun j u hu => by
    have := two_at w2 (.int .i64 q0) (.int .i64 q1) 3 w2.heap.size rfl j u hu
    rwa [add_at] at this⟩
  have HO := Lib.hid (or_any _ 2 [q0, q1] _ hR (by simp))
  clear hR
  go_wp2_with (go_at_call 128; refine (HO.out).mono ?_; rintro e w' ⟨rfl, rfl⟩)
  go_ret
  exact ⟨by rw [HV.out]; rfl, hB.alloc hB.size _, by simp; omega⟩

attribute [local go_sem ↓] load_at68 load_run
set_option maxRecDepth 100000 in
set_option maxHeartbeats 4000000 in
theorem known_anyD (a b : NoteD) (w : World) : Calls Tryz.prog 86 #[.agg a.arr, .agg b.arr] w fun e w' => e = .returned (.int .i64 (knownC a b)) ∧ BelD w w' := by
  have HV : Hid (knownC a b = orV [cmpI a.clock b.clock, cmpName a.name b.name]) := by rw [orV_two]; exact Lib.hid rfl
  obtain ⟨W, hW⟩ : ∃ W, (w.alloc (.cells a.arr 68)).alloc (.cells b.arr 68) = W := ⟨_, rfl⟩
  have hbW : Below w.heap.size w W := by rw [← hW]; exact ((Below.refl _ _).alloc (Nat.le_refl _) _).alloc (by simp) _
  have hdW : w.drawn ≤ W.drawn := by rw [← hW]; exact Nat.le_refl _
  have Y : Bk W w.heap.size 68 a.arr := by rw [← hW]; exact (bk_last rfl).alloc _
  have Z : Bk W (w.heap.size + 1) 68 b.arr := by rw [← hW]; exact bk_last (by simp)
  have y2 := Y.cell 2
  have z2 := Z.cell 2
  simp [NoteD.arr] at y2 z2
  have l0 := fun x : ExtD W => load68_eq a (Y.keep x.bel)
  have l1 := fun x : ExtD W => load68_eq b (Z.keep x.bel)
  have HN1 := Lib.hid (fun x : ExtD W => nameOf_anyD a x.w)
  have HN2 := Lib.hid (fun x : ExtD W => nameOf_anyD b x.w)
  have HCN := Lib.hid (fun x : ExtD W => compareNames_anyD a.name b.name x.w)
  unfold nameV NoteD.name at HCN
  simp only at HCN
  have HW := Lib.hid hW
  clear hW Y Z
  go_enter Tryz.func86, Tryz.ntmps86
  go_upto_region 1 with fail
  rw [HW.out]
  clear HW
  refine wp_region_extD 10 (by kernel_rfl) (by kernel_rfl) (fun _ _ d _ _ h => by cases d <;> exact h) ?_
  simp only [List.take_succ_cons, List.take_zero, List.drop_succ_cons, List.drop_zero]
  replace y2 := fun x : ExtD W => keepc x.bel y2
  replace z2 := fun x : ExtD W => keepc x.bel z2
  repeat (go_big_quiet_step (first | (go_at_call 129; exact extD_same (cmpI_any _ _ _)) | (go_at_call 73; (first | with_reducible exact extD_of (HN1.out _) | with_reducible exact extD_of (HN2.out _))) | (go_at_call 90; exact extD_of (HCN.out _))))
  refine wpQuiet_nil ?_
  rintro _ ⟨y, rfl⟩
  clear y2 z2 l0 l1 HN1 HN2 HCN
  have hb2 := y.bel
  have hd2 := y.dr
  generalize y.w = w2 at hb2 hd2 ⊢
  have hB := hbW.trans (hb2.mono hbW.size)
  unfold NoteD.name at HV
  generalize cmpI a.clock b.clock = q0 at *
  generalize cmpName (a.house, a.num) (b.house, b.num) = q1 at *
  have hR : RowAt (w2.alloc (.cells #[.int .i64 q0, .int .i64 q1] 3)) (some ⟨w2.heap.size, 0, none⟩) (intCells [q0, q1]) := fun _ => ⟨w2.heap.size, 0, rfl, by simp, fun j u hu => by
    have := two_at w2 (.int .i64 q0) (.int .i64 q1) 3 w2.heap.size rfl j u hu
    rwa [add_at] at this⟩
  have HO := Lib.hid (or_any _ 2 [q0, q1] _ hR (by simp))
  clear hR
  go_wp2_with (go_at_call 128; refine (HO.out).mono ?_; rintro e w' ⟨rfl, rfl⟩)
  go_ret
  exact ⟨by rw [HV.out]; rfl, hB.alloc hB.size _, by simp; omega⟩

set_option maxRecDepth 100000 in
set_option maxHeartbeats 4000000 in
theorem when_anyD (a b : NoteD) (w : World) : Calls Tryz.prog 136 #[.agg a.arr, .agg b.arr] w fun e w' => e = .returned (.int .i64 (whenC a b)) ∧ BelD w w' := by
  have HV : Hid (whenC a b = orV [cmpI a.day b.day, knownC a b]) := by rw [orV_two]; exact Lib.hid rfl
  obtain ⟨W, hW⟩ : ∃ W, (w.alloc (.cells a.arr 68)).alloc (.cells b.arr 68) = W := ⟨_, rfl⟩
  have hbW : Below w.heap.size w W := by rw [← hW]; exact ((Below.refl _ _).alloc (Nat.le_refl _) _).alloc (by simp) _
  have hdW : w.drawn ≤ W.drawn := by rw [← hW]; exact Nat.le_refl _
  have Y : Bk W w.heap.size 68 a.arr := by rw [← hW]; exact (bk_last rfl).alloc _
  have Z : Bk W (w.heap.size + 1) 68 b.arr := by rw [← hW]; exact bk_last (by simp)
  have y3 := Y.cell 3
  have z3 := Z.cell 3
  simp [NoteD.arr] at y3 z3
  have l0 := fun x : ExtD W => load68_eq a (Y.keep x.bel)
  have l1 := fun x : ExtD W => load68_eq b (Z.keep x.bel)
  have HKN := Lib.hid (fun x : ExtD W => known_anyD a b x.w)
  have HW := Lib.hid hW
  clear hW Y Z
  go_enter Tryz.func136, Tryz.ntmps136
  go_upto_region 1 with fail
  rw [HW.out]
  clear HW
  refine wp_region_extD 8 (by kernel_rfl) (by kernel_rfl) (fun _ _ d _ _ h => by cases d <;> exact h) ?_
  simp only [List.take_succ_cons, List.take_zero, List.drop_succ_cons, List.drop_zero]
  replace y3 := fun x : ExtD W => keepc x.bel y3
  replace z3 := fun x : ExtD W => keepc x.bel z3
  repeat (go_big_quiet_step (first | (go_at_call 129; exact extD_same (cmpI_any _ _ _)) | (go_at_call 86; exact extD_of (HKN.out _))))
  refine wpQuiet_nil ?_
  rintro _ ⟨y, rfl⟩
  clear y3 z3 l0 l1 HKN
  have hb2 := y.bel
  have hd2 := y.dr
  generalize y.w = w2 at hb2 hd2 ⊢
  have hB := hbW.trans (hb2.mono hbW.size)
  generalize cmpI a.day b.day = q0 at *
  generalize knownC a b = q1 at *
  have hR : RowAt (w2.alloc (.cells #[.int .i64 q0, .int .i64 q1] 3)) (some ⟨w2.heap.size, 0, none⟩) (intCells [q0, q1]) := fun _ => ⟨w2.heap.size, 0, rfl, by simp, fun j u hu => by
    have := two_at w2 (.int .i64 q0) (.int .i64 q1) 3 w2.heap.size rfl j u hu
    rwa [add_at] at this⟩
  have HO := Lib.hid (or_any _ 2 [q0, q1] _ hR (by simp))
  clear hR
  go_wp2_with (go_at_call 128; refine (HO.out).mono ?_; rintro e w' ⟨rfl, rfl⟩)
  go_ret
  exact ⟨by rw [HV.out]; rfl, hB.alloc hB.size _, by simp; omega⟩

end Go.Proofs.YteihcodicfoiaaaGreat
