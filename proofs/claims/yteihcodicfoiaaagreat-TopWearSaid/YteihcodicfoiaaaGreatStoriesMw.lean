/-
  What is proved: the contract of Stories, on what a set's register is.
-/
import Derived.Test.YteihcodicfoiaaaGreatStoryMw
namespace Go.Proofs.YteihcodicfoiaaaGreat
open Go.RowKit

theorem StpAt.below {n : Nat} {V V' : World} {A : Option Addr} {S : List StepD} (h : StpAt n V A S) (hb : Below V.heap.size V V') : StpAt n V' A S :=
  ⟨h.row.below hb, h.lo, fun s hs => by obtain ⟨g, h1, h2, h3⟩ := h.tm s hs; exact ⟨g, h1, h2, h3.keep hb⟩⟩
theorem StpAt.mono {n m : Nat} {V : World} {A : Option Addr} {S : List StepD} (h : StpAt n V A S) (hm : m ≤ n) : StpAt m V A S :=
  ⟨h.row, fun a ha => Nat.le_trans hm (h.lo a ha), fun s hs => by obtain ⟨g, h1, h2, h3⟩ := h.tm s hs; exact ⟨g, h1, ⟨Nat.le_trans hm h2.1, h2.2⟩, h3⟩⟩
theorem StpAt.far {n : Nat} {V : World} {A : Option Addr} {S : List StepD} (h : StpAt n V A S) {q : Nat} (hq : q < n) (c : Nat) (u : Value) : StpAt n (V.setCell ⟨q, c, none⟩ u) A S :=
  ⟨h.row.farA (fun a ha => by have := h.lo a ha; simp; omega) _, h.lo, fun s hs => by obtain ⟨g, h1, h2, h3⟩ := h.tm s hs; exact ⟨g, h1, h2, h3.far (by simp; omega) _⟩⟩
/-- A story handed out. -/
structure StR where
  A1 : Option Addr
  n1 : Nat
  c1 : Nat
  A2 : Option Addr
  n2 : Nat
  c2 : Nat
  A3 : Option Addr
  c3 : Nat
  A4 : Option Addr
  c4 : Nat
  S : List StepD
  R : List ReadD
def StR.zero : StR := ⟨none, 0, 0, none, 0, 0, none, 0, none, 0, [], []⟩
def StR.arr (D : StR) : Array Value := storyV D.A1 D.n1 D.c1 D.A2 D.n2 D.c2 D.A3 D.S.length D.c3 D.A4 D.R.length D.c4
structure StR.Is (D : StR) (b : BaseC) (st : Int) (H E : List EvD) (n : Nat) (V : World) : Prop where
  at_ : StpAt n V D.A3 D.S
  is : (D.S.map StepD.plain, D.R) = toldF b st (cntOf b.flr (ixS st)) H E
section
variable {D : StR} {b : BaseC} {st : Int} {H E : List EvD} {n m : Nat} {V V' : World}
theorem StR.Is.below (h : D.Is b st H E n V) (hb : Below V.heap.size V V') : D.Is b st H E n V' := ⟨h.at_.below hb, h.is⟩
theorem StR.Is.mono (h : D.Is b st H E n V) (hm : m ≤ n) : D.Is b st H E m V := ⟨h.at_.mono hm, h.is⟩
theorem StR.Is.far (h : D.Is b st H E n V) {q : Nat} (hq : q < n) (c : Nat) (u : Value) : D.Is b st H E n (V.setCell ⟨q, c, none⟩ u) := ⟨h.at_.far hq c u, h.is⟩
end
theorem storyP_is {b : BaseC} {st : Int} {H E : List EvD} {w : World} {e : Ending} {V : World} (h : StoryP b st (ixS st) H E w e V) : Below w.heap.size w V ∧ ∃ D : StR, e = .returned (.tuple #[.agg D.arr, .int .i64 0]) ∧ D.Is b st H E w.heap.size V := by
  obtain ⟨h1, S, R, A1, n1, c1, A2, n2, c2, A3, c3, A4, c4, h2, h3, h4⟩ := h
  exact ⟨h1, ⟨A1, n1, c1, A2, n2, c2, A3, c3, A4, c4, S, R⟩, h2, h3, h4⟩
/-- Two stories, in one row of cells. -/
def st8 (D0 D1 : StR) : Array Value := #[.slice D0.A1 D0.n1 D0.c1, .slice D0.A2 D0.n2 D0.c2, .slice D0.A3 D0.S.length D0.c3, .slice D0.A4 D0.R.length D0.c4, .slice D1.A1 D1.n1 D1.c1, .slice D1.A2 D1.n2 D1.c2, .slice D1.A3 D1.S.length D1.c3, .slice D1.A4 D1.R.length D1.c4]
def StoriesP (b : BaseC) (H E : List EvD) (w : World) (e : Ending) (V : World) : Prop :=
  Below w.heap.size w V ∧ ∃ D0 D1 : StR, e = .returned (.tuple #[.agg (st8 D0 D1), .int .i64 0]) ∧ D0.Is b 0 H E w.heap.size V ∧ D1.Is b 1 H E w.heap.size V

attribute [local go_sem ↓] load_at41 load_at49 load_run
set_option maxRecDepth 100000 in
set_option maxHeartbeats 8000000 in
theorem stories_any (b : BaseC) (z : BaseL) (l L : List NoteD) (H E : List EvD) (A1 A2 A3 : Option Addr) (c1 c2 n3 c3 : Nat) (w : World) (hb : BaseAt w b z) (hR : SetR b l L H E) (r1 : EvRow w A1 H) (r2 : EvRow w A2 E) :
    Calls Tryz.prog 7 #[.agg (b.arr z), regV A1 H.length c1 A2 E.length c2 A3 n3 c3] w (StoriesP b H E w) := by
  have HST := Lib.hid (fun (st : Int) (hst : st = 0 ∨ st = 1) (X : World) (h : Below w.heap.size w X) => (show Calls Tryz.prog 18 #[.agg (b.arr z), regV A1 H.length c1 A2 E.length c2 A3 n3 c3, .int .i64 st] X fun e V => Below X.heap.size X V ∧ ∃ D : StR, e = .returned (.tuple #[.agg D.arr, .int .i64 0]) ∧ D.Is b st H E X.heap.size V from
    (story_any st hst b z l L H E A1 A2 A3 c1 c2 n3 c3 X (hb.below h) hR (r1.below h) (r2.below h)).mono fun e V he => storyP_is he))
  unfold regV at *
  obtain ⟨W, hW⟩ : ∃ W, (((w.alloc (.cells (b.arr z) 41)).alloc (.cells #[.slice A1 H.length c1, .slice A2 E.length c2, .slice A3 n3 c3] 49)).alloc (.cells (st8 StR.zero StR.zero) 56)).alloc (.cells (st8 StR.zero StR.zero) 56) = W := ⟨_, rfl⟩
  have hbW : Below w.heap.size w W := by rw [← hW]; exact ((((Below.refl _ _).alloc (Nat.le_refl _) _).alloc (by simp) _).alloc (by simp; omega) _).alloc (by simp; omega) _
  have X : Bk W w.heap.size 41 (b.arr z) := by rw [← hW]; exact (((bk_last rfl).alloc _).alloc _).alloc _
  have Y : Bk W (w.heap.size + 1) 49 #[.slice A1 H.length c1, .slice A2 E.length c2, .slice A3 n3 c3] := by rw [← hW]; exact ((bk_last (by simp)).alloc _).alloc _
  have Z : Bk W (w.heap.size + 2) 56 (st8 StR.zero StR.zero) := by rw [← hW]; exact (bk_last (by simp)).alloc _
  have U : Bk W (w.heap.size + 3) 56 (st8 StR.zero StR.zero) := by rw [← hW]; exact bk_last (by simp)
  have H1 := Lib.hid (show Bk W w.heap.size 41 (b.arr z) ∧ Bk W (w.heap.size + 1) 49 #[.slice A1 H.length c1, .slice A2 E.length c2, .slice A3 n3 c3] ∧ Bk W (w.heap.size + 2) 56 (st8 StR.zero StR.zero) ∧ Bk W (w.heap.size + 3) 56 (st8 StR.zero StR.zero) ∧ Below w.heap.size w W from ⟨X, Y, Z, U, hbW⟩)
  have HW := Lib.hid hW
  clear hW X Y Z U hbW hb hR r1 r2
  go_enter Tryz.func7, Tryz.ntmps7
  go_upto_region 2 with fail
  rw [show ((((w.alloc (.cells (b.arr z) 41)).alloc (.cells #[.slice A1 H.length c1, .slice A2 E.length c2, .slice A3 n3 c3] 49)).alloc (.cells #[.slice none 0 0, .slice none 0 0, .slice none 0 0, .slice none 0 0, .slice none 0 0, .slice none 0 0, .slice none 0 0, .slice none 0 0] 56)).alloc (.cells #[.slice none 0 0, .slice none 0 0, .slice none 0 0, .slice none 0 0, .slice none 0 0, .slice none 0 0, .slice none 0 0, .slice none 0 0] 56)) = W from HW.out]
  clear HW
  go_upto_region 3 with fail
  go_loopw [10] (fun i wr => ∃ (k : Nat) (D0 D1 : StR), k ≤ 2 ∧ i = .int .i64 k ∧ Hid (Bk wr w.heap.size 41 (b.arr z) ∧ Bk wr (w.heap.size + 1) 49 #[.slice A1 H.length c1, .slice A2 E.length c2, .slice A3 n3 c3] ∧ Bk wr (w.heap.size + 2) 56 (st8 StR.zero StR.zero) ∧ Bk wr (w.heap.size + 3) 56 (st8 D0 D1) ∧ Below w.heap.size w wr ∧ (1 ≤ k → D0.Is b 0 H E (w.heap.size + 4) wr) ∧ (2 ≤ k → D1.Is b 1 H E (w.heap.size + 4) wr))) (fun i _ => 2 - (intOf i).toNat)
  case atStart => exact ⟨0, StR.zero, StR.zero, by omega, rfl, H1.out.1, H1.out.2.1, H1.out.2.2.1, H1.out.2.2.2.1, H1.out.2.2.2.2, fun h => absurd h (by omega), fun h => absurd h (by omega)⟩
  case round =>
    clear H1
    obtain ⟨k, D0, D1, hk, rfl, HI⟩ := hrel
    have hk3 : k = 0 ∨ k = 1 ∨ k = 2 := by omega
    rcases hk3 with rfl | rfl | rfl
    · have hpw : w.heap.size + 3 < wr.heap.size := HI.out.2.2.2.1.lt
      have l41 := load41_eq HI.out.1 rfl
      have l49 := load49_eq HI.out.2.1 rfl
      have HS := Lib.hid (HST.out 0 (by omega) wr HI.out.2.2.2.2.1)
      go_upto_region 8 with (go_at_call 18; refine HS.out.mono ?_; rintro e w3 ⟨hb3, D, rfl, hD⟩; unfold StR.arr storyV; have hb4 : Below w3.heap.size w3 (w3.alloc (.cells #[.slice D.A1 D.n1 D.c1, .slice D.A2 D.n2 D.c2, .slice D.A3 D.S.length D.c3, .slice D.A4 D.R.length D.c4] 55)) := (Below.refl _ _).alloc (Nat.le_refl _) _; have hb34 := hb3.trans (hb4.mono hb3.size); have Q : Bk (w3.alloc (.cells #[.slice D.A1 D.n1 D.c1, .slice D.A2 D.n2 D.c2, .slice D.A3 D.S.length D.c3, .slice D.A4 D.R.length D.c4] 55)) w3.heap.size 55 #[.slice D.A1 D.n1 D.c1, .slice D.A2 D.n2 D.c2, .slice D.A3 D.S.length D.c3, .slice D.A4 D.R.length D.c4] := bk_last rfl; have H3 := Lib.hid (And.intro hb34 (And.intro Q (hD.below hb4))); have hs3 := hb3.size; clear hb3 hb4 hb34 Q hD)
      clear l41 l49 HS
      generalize w3.alloc _ = V at *
      generalize w3.heap.size = q8 at *
      have d0 := H3.out.2.1.cell 0
      have d1 := H3.out.2.1.cell 1
      have d2 := H3.out.2.1.cell 2
      have d3 := H3.out.2.1.cell 3
      simp at d0 d1 d2 d3
      have U := HI.out.2.2.2.1.keep H3.out.1
      have hul := U.lt
      have u0 := U.cell 0
      have z0 := U.fz 0
      have u1 := U.cell 1
      have z1 := U.fz 1
      have u2 := U.cell 2
      have z2 := U.fz 2
      have u3 := U.cell 3
      have z3 := U.fz 3
      simp [st8] at u0 u1 u2 u3
      have hq8 := H3.out.2.1.lt
      clear U
      go_wp2_with fail
      have U := ((((HI.out.2.2.2.1.keep H3.out.1).put 0 (.slice D.A1 D.n1 D.c1)).put 1 (.slice D.A2 D.n2 D.c2)).put 2 (.slice D.A3 D.S.length D.c3)).put 3 (.slice D.A4 D.R.length D.c4)
      have B8 := ((((HI.out.2.2.2.2.1.trans (H3.out.1.mono HI.out.2.2.2.2.1.size)).setCell (p := ⟨w.heap.size + 3, 0, none⟩) (by simp) (.slice D.A1 D.n1 D.c1)).setCell (p := ⟨w.heap.size + 3, 1, none⟩) (by simp) (.slice D.A2 D.n2 D.c2)).setCell (p := ⟨w.heap.size + 3, 2, none⟩) (by simp) (.slice D.A3 D.S.length D.c3)).setCell (p := ⟨w.heap.size + 3, 3, none⟩) (by simp) (.slice D.A4 D.R.length D.c4)
      have P8 := fun {q : Nat} {t : TypeId} {cs : Array Value} (h : Bk wr q t cs) (hq : q ≠ w.heap.size + 3) => (((((h.keep H3.out.1).far (p := ⟨w.heap.size + 3, 0, none⟩) hq (.slice D.A1 D.n1 D.c1)).far (p := ⟨w.heap.size + 3, 1, none⟩) hq (.slice D.A2 D.n2 D.c2)).far (p := ⟨w.heap.size + 3, 2, none⟩) hq (.slice D.A3 D.S.length D.c3)).far (p := ⟨w.heap.size + 3, 3, none⟩) hq (.slice D.A4 D.R.length D.c4))
      have I8 := fun {D' : StR} {st : Int} (h : D'.Is b st H E (w.heap.size + 4) V) => ((((h.far (q := w.heap.size + 3) (by omega) 0 (.slice D.A1 D.n1 D.c1)).far (q := w.heap.size + 3) (by omega) 1 (.slice D.A2 D.n2 D.c2)).far (q := w.heap.size + 3) (by omega) 2 (.slice D.A3 D.S.length D.c3)).far (q := w.heap.size + 3) (by omega) 3 (.slice D.A4 D.R.length D.c4))
      have D8 := I8 (H3.out.2.2.mono (by omega))
      go_roundw
      case rel => exact ⟨1, D, D1, by omega, rfl, P8 HI.out.1 (by omega), P8 HI.out.2.1 (by omega), P8 HI.out.2.2.1 (by omega), U, B8, fun _ => D8, fun h => absurd h (by omega)⟩
      case measure => simp [intOf]
    · have hpw : w.heap.size + 3 < wr.heap.size := HI.out.2.2.2.1.lt
      have l41 := load41_eq HI.out.1 rfl
      have l49 := load49_eq HI.out.2.1 rfl
      have HS := Lib.hid (HST.out 1 (by omega) wr HI.out.2.2.2.2.1)
      go_upto_region 8 with (go_at_call 18; refine HS.out.mono ?_; rintro e w3 ⟨hb3, D, rfl, hD⟩; unfold StR.arr storyV; have hb4 : Below w3.heap.size w3 (w3.alloc (.cells #[.slice D.A1 D.n1 D.c1, .slice D.A2 D.n2 D.c2, .slice D.A3 D.S.length D.c3, .slice D.A4 D.R.length D.c4] 55)) := (Below.refl _ _).alloc (Nat.le_refl _) _; have hb34 := hb3.trans (hb4.mono hb3.size); have Q : Bk (w3.alloc (.cells #[.slice D.A1 D.n1 D.c1, .slice D.A2 D.n2 D.c2, .slice D.A3 D.S.length D.c3, .slice D.A4 D.R.length D.c4] 55)) w3.heap.size 55 #[.slice D.A1 D.n1 D.c1, .slice D.A2 D.n2 D.c2, .slice D.A3 D.S.length D.c3, .slice D.A4 D.R.length D.c4] := bk_last rfl; have H3 := Lib.hid (And.intro hb34 (And.intro Q (hD.below hb4))); have hs3 := hb3.size; clear hb3 hb4 hb34 Q hD)
      clear l41 l49 HS
      generalize w3.alloc _ = V at *
      generalize w3.heap.size = q8 at *
      have d0 := H3.out.2.1.cell 0
      have d1 := H3.out.2.1.cell 1
      have d2 := H3.out.2.1.cell 2
      have d3 := H3.out.2.1.cell 3
      simp at d0 d1 d2 d3
      have U := HI.out.2.2.2.1.keep H3.out.1
      have hul := U.lt
      have u0 := U.cell 4
      have z0 := U.fz 4
      have u1 := U.cell 5
      have z1 := U.fz 5
      have u2 := U.cell 6
      have z2 := U.fz 6
      have u3 := U.cell 7
      have z3 := U.fz 7
      simp [st8] at u0 u1 u2 u3
      have hq8 := H3.out.2.1.lt
      clear U
      go_wp2_with fail
      have U := ((((HI.out.2.2.2.1.keep H3.out.1).put 4 (.slice D.A1 D.n1 D.c1)).put 5 (.slice D.A2 D.n2 D.c2)).put 6 (.slice D.A3 D.S.length D.c3)).put 7 (.slice D.A4 D.R.length D.c4)
      have B8 := ((((HI.out.2.2.2.2.1.trans (H3.out.1.mono HI.out.2.2.2.2.1.size)).setCell (p := ⟨w.heap.size + 3, 4, none⟩) (by simp) (.slice D.A1 D.n1 D.c1)).setCell (p := ⟨w.heap.size + 3, 5, none⟩) (by simp) (.slice D.A2 D.n2 D.c2)).setCell (p := ⟨w.heap.size + 3, 6, none⟩) (by simp) (.slice D.A3 D.S.length D.c3)).setCell (p := ⟨w.heap.size + 3, 7, none⟩) (by simp) (.slice D.A4 D.R.length D.c4)
      have P8 := fun {q : Nat} {t : TypeId} {cs : Array Value} (h : Bk wr q t cs) (hq : q ≠ w.heap.size + 3) => (((((h.keep H3.out.1).far (p := ⟨w.heap.size + 3, 4, none⟩) hq (.slice D.A1 D.n1 D.c1)).far (p := ⟨w.heap.size + 3, 5, none⟩) hq (.slice D.A2 D.n2 D.c2)).far (p := ⟨w.heap.size + 3, 6, none⟩) hq (.slice D.A3 D.S.length D.c3)).far (p := ⟨w.heap.size + 3, 7, none⟩) hq (.slice D.A4 D.R.length D.c4))
      have I8 := fun {D' : StR} {st : Int} (h : D'.Is b st H E (w.heap.size + 4) V) => ((((h.far (q := w.heap.size + 3) (by omega) 4 (.slice D.A1 D.n1 D.c1)).far (q := w.heap.size + 3) (by omega) 5 (.slice D.A2 D.n2 D.c2)).far (q := w.heap.size + 3) (by omega) 6 (.slice D.A3 D.S.length D.c3)).far (q := w.heap.size + 3) (by omega) 7 (.slice D.A4 D.R.length D.c4))
      have D8 := I8 (H3.out.2.2.mono (by omega))
      go_roundw
      case rel => exact ⟨2, D0, D, by omega, rfl, P8 HI.out.1 (by omega), P8 HI.out.2.1 (by omega), P8 HI.out.2.2.1 (by omega), U, B8, fun _ => I8 ((HI.out.2.2.2.2.2.1 (by omega)).below H3.out.1), fun _ => D8⟩
      case measure => simp [intOf]
    · have hpw : w.heap.size + 3 < wr.heap.size := HI.out.2.2.2.1.lt
      obtain ⟨r, hr⟩ : ∃ r, w.heap.size + 2 = r := ⟨_, rfl⟩
      have hr3 : w.heap.size + 3 = r + 1 := by omega
      rw [hr, hr3] at HI
      rw [hr3] at hpw
      have T := HI.out.2.2.1
      have U := HI.out.2.2.2.1
      have rl := T.lt
      have r0 := T.fz 0
      have u0 := T.cell 0
      have v0 := U.cell 0
      have r1 := T.fz 1
      have u1 := T.cell 1
      have v1 := U.cell 1
      have r2 := T.fz 2
      have u2 := T.cell 2
      have v2 := U.cell 2
      have r3 := T.fz 3
      have u3 := T.cell 3
      have v3 := U.cell 3
      have r4 := T.fz 4
      have u4 := T.cell 4
      have v4 := U.cell 4
      have r5 := T.fz 5
      have u5 := T.cell 5
      have v5 := U.cell 5
      have r6 := T.fz 6
      have u6 := T.cell 6
      have v6 := U.cell 6
      have r7 := T.fz 7
      have u7 := T.cell 7
      have v7 := U.cell 7
      simp [st8, StR.zero] at u0 v0 u1 v1 u2 v2 u3 v3 u4 v4 u5 v5 u6 v6 u7 v7
      have HT := Lib.hid T
      simp only [hr, hr3]
      clear T U
      go_wp2_with fail
      have T := (((((((HT.out.put 0 (.slice D0.A1 D0.n1 D0.c1)).put 1 (.slice D0.A2 D0.n2 D0.c2)).put 2 (.slice D0.A3 D0.S.length D0.c3)).put 3 (.slice D0.A4 D0.R.length D0.c4)).put 4 (.slice D1.A1 D1.n1 D1.c1)).put 5 (.slice D1.A2 D1.n2 D1.c2)).put 6 (.slice D1.A3 D1.S.length D1.c3)).put 7 (.slice D1.A4 D1.R.length D1.c4)
      have hBg := (((((((HI.out.2.2.2.2.1.setCell (p := ⟨r, 0, none⟩) (by simp; omega) (.slice D0.A1 D0.n1 D0.c1)).setCell (p := ⟨r, 1, none⟩) (by simp; omega) (.slice D0.A2 D0.n2 D0.c2)).setCell (p := ⟨r, 2, none⟩) (by simp; omega) (.slice D0.A3 D0.S.length D0.c3)).setCell (p := ⟨r, 3, none⟩) (by simp; omega) (.slice D0.A4 D0.R.length D0.c4)).setCell (p := ⟨r, 4, none⟩) (by simp; omega) (.slice D1.A1 D1.n1 D1.c1)).setCell (p := ⟨r, 5, none⟩) (by simp; omega) (.slice D1.A2 D1.n2 D1.c2)).setCell (p := ⟨r, 6, none⟩) (by simp; omega) (.slice D1.A3 D1.S.length D1.c3)).setCell (p := ⟨r, 7, none⟩) (by simp; omega) (.slice D1.A4 D1.R.length D1.c4)
      have hI0 := ((((((((HI.out.2.2.2.2.2.1 (by omega)).far (q := r) (by omega) 0 (.slice D0.A1 D0.n1 D0.c1)).far (q := r) (by omega) 1 (.slice D0.A2 D0.n2 D0.c2)).far (q := r) (by omega) 2 (.slice D0.A3 D0.S.length D0.c3)).far (q := r) (by omega) 3 (.slice D0.A4 D0.R.length D0.c4)).far (q := r) (by omega) 4 (.slice D1.A1 D1.n1 D1.c1)).far (q := r) (by omega) 5 (.slice D1.A2 D1.n2 D1.c2)).far (q := r) (by omega) 6 (.slice D1.A3 D1.S.length D1.c3)).far (q := r) (by omega) 7 (.slice D1.A4 D1.R.length D1.c4)
      have hI1 := ((((((((HI.out.2.2.2.2.2.2 (by omega)).far (q := r) (by omega) 0 (.slice D0.A1 D0.n1 D0.c1)).far (q := r) (by omega) 1 (.slice D0.A2 D0.n2 D0.c2)).far (q := r) (by omega) 2 (.slice D0.A3 D0.S.length D0.c3)).far (q := r) (by omega) 3 (.slice D0.A4 D0.R.length D0.c4)).far (q := r) (by omega) 4 (.slice D1.A1 D1.n1 D1.c1)).far (q := r) (by omega) 5 (.slice D1.A2 D1.n2 D1.c2)).far (q := r) (by omega) 6 (.slice D1.A3 D1.S.length D1.c3)).far (q := r) (by omega) 7 (.slice D1.A4 D1.R.length D1.c4)
      refine bodyPost_ret (v := .tuple #[.agg (st8 D0 D1), .int .i64 0]) (results_cell_tmp (fn := Tryz.f7) (p := 4) (q := 5) rfl rfl T rfl Tryz.underlying56 (by kernel_rfl)) rfl ?_
      exact ⟨hBg, D0, D1, rfl, hI0.mono (by omega), hI1.mono (by omega)⟩
end Go.Proofs.YteihcodicfoiaaaGreat
