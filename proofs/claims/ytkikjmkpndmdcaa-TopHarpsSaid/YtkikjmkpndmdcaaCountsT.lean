/-
  What is proved: the contracts of Counts and RunnerCounts.
-/
import Derived.Test.YtkikjmkpndmdcaaCounts
namespace Go.Proofs.Ytkikjmkpndmdcaa
open Go.RowKit
attribute [local go_sem ↓] max_int min_int

theorem state_parts {f : Flr} (hok : f.Ok) {i : Nat} (hi : i < f.R * f.S * f.S) : bedIx f (ringN f.R f.S i) (secN f.S i) (turnN f.R f.S i) < f.R * f.S ∧ runIx f (ringN f.R f.S i) (secN f.S i) (turnN f.R f.S i) < f.R * f.S := by
  obtain ⟨e1, e2, e3, _⟩ := state_lt hok hi
  exact ⟨cell_lt e1 e2, cell_lt e1 (runS_lt (by have := hok.s0; omega))⟩

def CountsP (f : Flr) (ixF : Flr → Nat → Nat → Nat → Nat) (w : World) (e : Ending) (w' : World) : Prop :=
  Below w.heap.size w w' ∧ ∃ g, e = .returned (.tuple #[.slice (some ⟨g, 0, none⟩) (f.R * f.S) (f.R * f.S), .int .i64 0]) ∧ Bk w' g 3 (intCells (cntL f ixF (f.R * f.S * f.S))).toArray

set_option maxRecDepth 100000 in
set_option maxHeartbeats 4000000 in
theorem Counts_any (f : Flr) (z : FLoc) (w : World) (hp : PrAt w f z) (hpre : f.Pre) (hd : drvOk f = true) :
    Calls Try.prog 8 #[f.pr z] w (CountsP f bedIx w) := by
  have HO := Lib.hid (fun (X : World) (h : Below w.heap.size w X) => open_any f z X (hp.below h) hpre)
  have hok := hpre.ok hd
  have HC := Lib.hid (fun (b q : Nat) (X : World) (hf : FlAt X b f z) (hq : Bk X q 65 #[.pointer (some ⟨b, 0, none⟩)]) => bedCounts_any b q f z X hf hok hq (fun i hi => (state_parts hok hi).1))
  have HD := Lib.hid hd
  clear hok
  unfold Flr.pr at *
  obtain ⟨W, hW⟩ : ∃ W, w.alloc (.cells #[.int .i64 f.eye, .int .i64 f.R, .int .i64 f.S, .slice z.A1 f.bed.length z.c1, .int .i64 f.eye, .int .i64 f.R, .int .i64 f.S, .slice z.A2 f.run.length z.c2, .slice z.A3 f.drive.length z.c3] 35) = W := ⟨_, rfl⟩
  have hbW : Below w.heap.size w W := by rw [← hW]; exact (Below.refl _ _).alloc (Nat.le_refl _) _
  have X := (show Bk W w.heap.size 35 #[.int .i64 f.eye, .int .i64 f.R, .int .i64 f.S, .slice z.A1 f.bed.length z.c1, .int .i64 f.eye, .int .i64 f.R, .int .i64 f.S, .slice z.A2 f.run.length z.c2, .slice z.A3 f.drive.length z.c3] by rw [← hW]; exact bk_last rfl)
  have x0 := X.cell 0
  have x1 := X.cell 1
  have x2 := X.cell 2
  have x3 := X.cell 3
  have x4 := X.cell 4
  have x5 := X.cell 5
  have x6 := X.cell 6
  have x7 := X.cell 7
  have x8 := X.cell 8
  simp at x0 x1 x2 x3 x4 x5 x6 x7 x8
  have HW := Lib.hid hW
  clear hW hp hpre X hd
  go_enter Try.func8, Try.ntmps8
  go_upto_region 1 with fail
  rw [HW.out]
  clear HW
  go_wp2_with fail
  refine (HO.out W hbW).mono ?_
  clear x0 x1 x2 x3 x4 x5 x6 x7 x8 HO
  rintro e w2 ⟨hb2, h⟩
  have hB := hbW.trans (hb2.mono hbW.size)
  rcases h with ⟨_, b, _, rfl, hfl⟩ | ⟨hd, rfl⟩
  · have Q : Bk (w2.alloc (.cells #[.pointer (some ⟨b, 0, none⟩)] 65)) w2.heap.size 65 #[.pointer (some ⟨b, 0, none⟩)] := bk_last rfl
    have hb3 : Below w2.heap.size w2 (w2.alloc (.cells #[.pointer (some ⟨b, 0, none⟩)] 65)) := (Below.refl _ _).alloc (Nat.le_refl _) _
    have HC2 := Lib.hid (HC.out b w2.heap.size _ (hfl.below hb3) Q)
    have hB3 := hB.trans (hb3.mono hB.size)
    clear hb2 hb3 hfl Q HC HD hbW hB
    go_wp2_with fail
    refine (HC2.out).mono ?_
    clear HC2
    rintro e w4 ⟨g, rfl, hg, hb4⟩
    have hB4 := hB3.trans (hb4.mono hB3.size)
    have HG := Lib.hid hg
    clear hg hb4 hB3
    generalize hM : f.R * f.S = M at *
    have HM := Lib.hid hM
    clear hM
    go_wp2_with fail
    go_ret2
    exact ⟨hB4, g, by rw [HM.out]; rfl, by rw [HM.out]; exact HG.out⟩
  · rw [HD.out] at hd
    cases hd

set_option maxRecDepth 100000 in
set_option maxHeartbeats 4000000 in
theorem RunnerCounts_any (f : Flr) (z : FLoc) (w : World) (hp : PrAt w f z) (hpre : f.Pre) (hd : drvOk f = true) :
    Calls Try.prog 9 #[f.pr z] w (CountsP f runIx w) := by
  have HO := Lib.hid (fun (X : World) (h : Below w.heap.size w X) => open_any f z X (hp.below h) hpre)
  have hok := hpre.ok hd
  have HC := Lib.hid (fun (b q : Nat) (X : World) (hf : FlAt X b f z) (hq : Bk X q 65 #[.pointer (some ⟨b, 0, none⟩)]) => runCounts_any b q f z X hf hok hq (fun i hi => (state_parts hok hi).2))
  have HD := Lib.hid hd
  clear hok
  unfold Flr.pr at *
  obtain ⟨W, hW⟩ : ∃ W, w.alloc (.cells #[.int .i64 f.eye, .int .i64 f.R, .int .i64 f.S, .slice z.A1 f.bed.length z.c1, .int .i64 f.eye, .int .i64 f.R, .int .i64 f.S, .slice z.A2 f.run.length z.c2, .slice z.A3 f.drive.length z.c3] 35) = W := ⟨_, rfl⟩
  have hbW : Below w.heap.size w W := by rw [← hW]; exact (Below.refl _ _).alloc (Nat.le_refl _) _
  have X := (show Bk W w.heap.size 35 #[.int .i64 f.eye, .int .i64 f.R, .int .i64 f.S, .slice z.A1 f.bed.length z.c1, .int .i64 f.eye, .int .i64 f.R, .int .i64 f.S, .slice z.A2 f.run.length z.c2, .slice z.A3 f.drive.length z.c3] by rw [← hW]; exact bk_last rfl)
  have x0 := X.cell 0
  have x1 := X.cell 1
  have x2 := X.cell 2
  have x3 := X.cell 3
  have x4 := X.cell 4
  have x5 := X.cell 5
  have x6 := X.cell 6
  have x7 := X.cell 7
  have x8 := X.cell 8
  simp at x0 x1 x2 x3 x4 x5 x6 x7 x8
  have HW := Lib.hid hW
  clear hW hp hpre X hd
  go_enter Try.func9, Try.ntmps9
  go_upto_region 1 with fail
  rw [HW.out]
  clear HW
  go_wp2_with fail
  refine (HO.out W hbW).mono ?_
  clear x0 x1 x2 x3 x4 x5 x6 x7 x8 HO
  rintro e w2 ⟨hb2, h⟩
  have hB := hbW.trans (hb2.mono hbW.size)
  rcases h with ⟨_, b, _, rfl, hfl⟩ | ⟨hd, rfl⟩
  · have Q : Bk (w2.alloc (.cells #[.pointer (some ⟨b, 0, none⟩)] 65)) w2.heap.size 65 #[.pointer (some ⟨b, 0, none⟩)] := bk_last rfl
    have hb3 : Below w2.heap.size w2 (w2.alloc (.cells #[.pointer (some ⟨b, 0, none⟩)] 65)) := (Below.refl _ _).alloc (Nat.le_refl _) _
    have HC2 := Lib.hid (HC.out b w2.heap.size _ (hfl.below hb3) Q)
    have hB3 := hB.trans (hb3.mono hB.size)
    clear hb2 hb3 hfl Q HC HD hbW hB
    go_wp2_with fail
    refine (HC2.out).mono ?_
    clear HC2
    rintro e w4 ⟨g, rfl, hg, hb4⟩
    have hB4 := hB3.trans (hb4.mono hB3.size)
    have HG := Lib.hid hg
    clear hg hb4 hB3
    generalize hM : f.R * f.S = M at *
    have HM := Lib.hid hM
    clear hM
    go_wp2_with fail
    go_ret2
    exact ⟨hB4, g, by rw [HM.out]; rfl, by rw [HM.out]; exact HG.out⟩
  · rw [HD.out] at hd
    cases hd

end Go.Proofs.Ytkikjmkpndmdcaa
