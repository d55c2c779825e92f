/-
  What is proved: the contracts of Check and asked.
-/
import Derived.Test.YtkikjmkpndmdcaaOpen
import Derived.Test.YtkikjmkpndmdcaaSmall
namespace Go.Proofs.Ytkikjmkpndmdcaa
open Go.RowKit
attribute [local go_sem ↓] max_int min_int

def chkV (f : Flr) : Int := if drvOk f then 0 else 20

set_option maxRecDepth 100000 in
set_option maxHeartbeats 4000000 in
theorem check_any (f : Flr) (z : FLoc) (w : World) (hp : PrAt w f z) (hpre : f.Pre) :
    Calls Try.prog 7 #[f.pr z] w fun e w' => e = .returned (.int .i64 (chkV f)) ∧ Below w.heap.size w w' := by
  have HO := Lib.hid (fun (X : World) (h : Below w.heap.size w X) => open_any f z X (hp.below h) hpre)
  unfold Flr.pr at *
  obtain ⟨W, hW⟩ : ∃ W, w.alloc (.cells #[.int .i64 f.eye, .int .i64 f.R, .int .i64 f.S, .slice z.A1 f.bed.length z.c1, .int .i64 f.eye, .int .i64 f.R, .int .i64 f.S, .slice z.A2 f.run.length z.c2, .slice z.A3 f.drive.length z.c3] 35) = W := ⟨_, rfl⟩
  have hbW : Below w.heap.size w W := by rw [← hW]; exact (Below.refl _ _).alloc (Nat.le_refl _) _
  have X := (show Bk W w.heap.size 35 #[.int .i64 f.eye, .int .i64 f.R, .int .i64 f.S, .slice z.A1 f.bed.length z.c1, .int .i64 f.eye, .int .i64 f.R, .int .i64 f.S, .slice z.A2 f.run.length z.c2, .slice z.A3 f.drive.length z.c3] by rw [← hW]; exact bk_last rfl)
  have x0 := X.cell 0
  have x1 := X.cell 1
  have x2 := X.cell 2
  have x3 := X.cell 3
  have x4 := X.cell 4
  have x5 := X.cell 5
  have x6 := X.cell 6
  have x7 := X.cell 7
  have x8 := X.cell 8
  simp at x0 x1 x2 x3 x4 x5 x6 x7 x8
  have HW := Lib.hid hW
  clear hW hp hpre X
  go_enter Try.func7, Try.ntmps7
  go_upto_region 1 with fail
  rw [HW.out]
  clear HW
  go_wp2_with fail
  refine (HO.out W hbW).mono ?_
  clear x0 x1 x2 x3 x4 x5 x6 x7 x8 HO
  rintro e w2 ⟨hb2, h⟩
  have hB := hbW.trans (hb2.mono hbW.size)
  rcases h with ⟨hd, b, _, rfl, _⟩ | ⟨hd, rfl⟩
  · have HD := Lib.hid hd
    clear hd hb2
    go_wp2_with fail
    go_ret
    exact ⟨ret_int (by rw [chkV, HD.out]; rfl), hB⟩
  · have HD := Lib.hid hd
    clear hd hb2
    go_wp2_with fail
    go_ret
    exact ⟨ret_int (by rw [chkV, HD.out]; rfl), hB⟩

def AskP (f : Flr) (z : FLoc) (ring sec turn : Nat) (w : World) (e : Ending) (w' : World) : Prop :=
  Below w.heap.size w w' ∧ ∃ b, w.heap.size ≤ b ∧ e = .returned (.tuple #[.pointer (some ⟨b, 0, none⟩), .int .i64 (numN f.R f.S ring sec turn), .int .i64 0]) ∧ FlAt w' b f z

set_option maxRecDepth 100000 in
set_option maxHeartbeats 4000000 in
theorem asked_any (f : Flr) (z : FLoc) (ring sec turn : Nat) (w : World) (hp : PrAt w f z) (hpre : f.Pre) (hd : drvOk f = true) (h1 : ring < f.R) (h2 : sec < f.S) (h3 : turn < f.S) :
    Calls Try.prog 45 #[f.pr z, stV ring sec turn] w (AskP f z ring sec turn w) := by
  have HO := Lib.hid (fun (X : World) (h : Below w.heap.size w X) => open_any f z X (hp.below h) hpre)
  have HH := Lib.hid (fun (b : Nat) (X : World) (hf : FlAt X b f z) => has_any b f z ring sec turn X hf h1 h2 h3)
  have HN := Lib.hid (fun (b : Nat) (X : World) (hf : FlAt X b f z) => number_any b f z ring sec turn X hf (hpre.ok hd) h1 h2 h3)
  have HD := Lib.hid hd
  unfold Flr.pr stV at *
  obtain ⟨W, hW⟩ : ∃ W, (w.alloc (.cells #[.int .i64 f.eye, .int .i64 f.R, .int .i64 f.S, .slice z.A1 f.bed.length z.c1, .int .i64 f.eye, .int .i64 f.R, .int .i64 f.S, .slice z.A2 f.run.length z.c2, .slice z.A3 f.drive.length z.c3] 35)).alloc (.cells #[.int .i64 ring, .int .i64 sec, .int .i64 turn] 40) = W := ⟨_, rfl⟩
  have hbW : Below w.heap.size w W := by rw [← hW]; exact ((Below.refl _ _).alloc (Nat.le_refl _) _).alloc (by simp) _
  have X := (show Bk W w.heap.size 35 #[.int .i64 f.eye, .int .i64 f.R, .int .i64 f.S, .slice z.A1 f.bed.length z.c1, .int .i64 f.eye, .int .i64 f.R, .int .i64 f.S, .slice z.A2 f.run.length z.c2, .slice z.A3 f.drive.length z.c3] by rw [← hW]; exact (bk_last rfl).alloc _)
  have Y := (show Bk W (w.heap.size + 1) 40 #[.int .i64 ring, .int .i64 sec, .int .i64 turn] by rw [← hW]; exact bk_last (by simp))
  have x0 := X.cell 0
  have x1 := X.cell 1
  have x2 := X.cell 2
  have x3 := X.cell 3
  have x4 := X.cell 4
  have x5 := X.cell 5
  have x6 := X.cell 6
  have x7 := X.cell 7
  have x8 := X.cell 8
  simp at x0 x1 x2 x3 x4 x5 x6 x7 x8
  have HW := Lib.hid hW
  clear hW hp hpre X hd
  go_enter Try.func45, Try.ntmps45
  go_upto_region 1 with fail
  rw [HW.out]
  clear HW
  go_wp2_with fail
  refine (HO.out W hbW).mono ?_
  clear x0 x1 x2 x3 x4 x5 x6 x7 x8 HO
  rintro e w2 ⟨hb2, h⟩
  have hB := hbW.trans (hb2.mono hbW.size)
  rcases h with ⟨_, b, hbb, rfl, hfl⟩ | ⟨hd, rfl⟩
  · have Y2 := Y.keep hb2
    clear hb2 Y
    have hwb : w.heap.size ≤ b := Nat.le_trans hbW.size hbb
    have hbl := hfl.blk.lt
    have HFL := Lib.hid hfl
    have y0 := Y2.cell 0
    have y1 := Y2.cell 1
    have y2 := Y2.cell 2
    simp at y0 y1 y2
    clear hfl hbb
    go_wp2_with fail
    refine (HH.out b w2 HFL.out).mono ?_
    rintro e w3 ⟨rfl, hb3⟩
    have Y3 := Y2.keep hb3
    have hB3 := hB.trans (hb3.mono hB.size)
    have HFL3 := Lib.hid (HFL.out.below hb3)
    clear y0 y1 y2 Y2 hB HFL HH hb3
    have y0 := Y3.cell 0
    have y1 := Y3.cell 1
    have y2 := Y3.cell 2
    simp at y0 y1 y2
    go_wp2_with fail
    refine (HN.out b w3 HFL3.out).mono ?_
    rintro e w4 ⟨rfl, hb4⟩
    have hB4 := hB3.trans (hb4.mono hB3.size)
    have HFL4 := Lib.hid (HFL3.out.below hb4)
    clear y0 y1 y2 Y3 hB3 HFL3 HN hb4
    generalize hnn : numN f.R f.S ring sec turn = nn at *
    have HNN := Lib.hid hnn
    clear hnn
    go_wp2_with fail
    go_ret3
    exact ⟨hB4, b, hwb, by rw [HNN.out]; rfl, HFL4.out⟩
  · rw [HD.out] at hd
    cases hd

end Go.Proofs.Ytkikjmkpndmdcaa
