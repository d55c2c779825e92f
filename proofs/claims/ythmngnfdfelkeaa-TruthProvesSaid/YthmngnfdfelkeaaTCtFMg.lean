/-
  What is proved: the contract of the reference's CheckTree.
-/
import Derived.Test.YthmngnfdfelkeaaTChkMg
import Derived.Test.YthmngnfdfelkeaaRMomMg
namespace Go.Proofs.Ythmngnfdfelkeaa
open Go.RowKit
attribute [local go_sem ↓] max_int min_int

/-- What CheckTree gives. -/
def ctR (s : Stn) (sum : Int) (t : Tr) : Int × Int :=
  if s.ok then if 200000 < sizeT t then (2, 0) else match checkF s sum (sizeT t) t lowZ (highK s s.pockets.length) with
    | none => (63, 0)
    | some m => (0, m)
  else (60, 0)

set_option maxRecDepth 100000 in
set_option maxHeartbeats 8000000 in
theorem ctF_any (s : Stn) (z : Loc) (sum : Int) (q : Nat) (t : Tr) (w : World) (hs : StAt w s z) (ht : TrAt w q t) :
    Calls Try.prog 55 #[s.val z, .int .i64 sum, t.val] w fun e w' => e = .returned (pairV (ctR s sum t)) ∧ Below w.heap.size w w' := by
  have HC : Hid (∀ W, StAt W s z → Calls Try.prog 51 #[.agg (s.cells z)] W fun e w' => e = .returned (.int .i64 (checkE s)) ∧ Below W.heap.size W w') := fun W h => rcheck_any s z W h
  have HM : Hid (∀ W, StAt W s z → s.ok = true → Calls Try.prog 77 #[.agg (s.cells z)] W fun e w' => e = .returned (.agg #[.int .i64 (momX s s.f.kinds.length), .int .i64 (momY s s.f.kinds.length)]) ∧ Below W.heap.size W w') := fun W h h2 => rmoment_any s z W h h2
  have HBX : Hid (∀ W, StAt W s z → s.ok = true → Calls Try.prog 76 #[.agg (s.cells z)] W fun e w' => ∃ A1 A2 c1 c2, e = .returned (.tuple #[.slice A1 s.pockets.length c1, .slice A2 s.pockets.length c2]) ∧ RowAt w' A1 (intCells (boxLo s)) ∧ RowAt w' A2 (intCells (boxHi s)) ∧ Below W.heap.size W w') := fun W h h2 => rbox_any s z W h h2
  have HNN : Hid (∀ W, Below w.heap.size w W → Calls Try.prog 59 #[t.val] W fun e w' => e = .returned (.int .i64 (min (sizeT t : Int) 200001)) ∧ Below W.heap.size W w') := fun W h => rnodes_any q t W (ht.keep h)
  have HCK : Hid (s.ok = true → ¬ 200000 < sizeT t → ∀ (A1 A2 : Option Addr) (c1 c2 : Nat) (W : World), Below w.heap.size w W → RowAt W A1 (intCells (boxLo s)) → RowAt W A2 (intCells (boxHi s)) → Calls Try.prog 104 #[.agg (proofA s z sum), t.val, .slice A1 s.pockets.length c1, .slice A2 s.pockets.length c2] W fun e w' => e = .returned (.tuple #[.int .i64 (checkR s sum (sizeT t) t lowZ (highK s s.pockets.length)).1, .bool (checkR s sum (sizeT t) t lowZ (highK s s.pockets.length)).2]) ∧ Below W.heap.size W w') := fun hok hn A1 A2 c1 c2 W h r1 r2 => by
    have hpl := (stn_ok hok).2.2.2.2.1
    rw [← take_low s hpl] at r1
    rw [← take_high s hpl] at r2
    exact chk_any s z sum hok (sizeT t) t (Nat.le_refl _) (by omega) q lowZ _ A1 A2 c1 c2 W (box_whole hok) (ht.keep h) (hs.below h) r1 r2
  have hct : ctR s sum t = if s.ok then if 200000 < sizeT t then (2, 0) else if (checkR s sum (sizeT t) t lowZ (highK s s.pockets.length)).2 = true then (0, (checkR s sum (sizeT t) t lowZ (highK s s.pockets.length)).1) else (63, 0) else (60, 0) := by
    obtain ⟨h1, h2, _, _⟩ := checkR_spec s sum (sizeT t) t lowZ (highK s s.pockets.length)
    unfold ctR
    split
    · split
      · rfl
      · rw [h1]
        cases hf : checkF s sum (sizeT t) t lowZ (highK s s.pockets.length) with
        | none => rfl
        | some m => rw [h2 m hf]; rfl
    · rfl
  generalize checkR s sum (sizeT t) t lowZ (highK s s.pockets.length) = cr at *
  obtain ⟨m, okk⟩ := cr
  simp only at HCK hct
  have HCT := Lib.hid hct
  clear hct
  obtain ⟨k, p, a, ⟨wx, wy⟩, A, c, kids⟩ := t
  generalize sizeT (.mk k p a (wx, wy) A c kids) = S at *
  generalize ctR s sum (.mk k p a (wx, wy) A c kids) = ct at *
  replace HNN : Hid (∀ W, Below w.heap.size w W → Calls Try.prog 59 #[.agg #[.int .i64 k, .int .i64 p, .int .i64 a, .int .i64 wx, .int .i64 wy, .slice A kids.length c]] W fun e w' => e = .returned (.int .i64 (min (S : Int) 200001)) ∧ Below W.heap.size W w') := HNN
  obtain ⟨mx, hmx⟩ : ∃ mx, momX s s.f.kinds.length = mx := ⟨_, rfl⟩
  obtain ⟨my, hmy⟩ : ∃ my, momY s s.f.kinds.length = my := ⟨_, rfl⟩
  replace HCK : Hid (s.ok = true → ¬ 200000 < S → ∀ (A1 A2 : Option Addr) (c1 c2 : Nat) (W : World), Below w.heap.size w W → RowAt W A1 (intCells (boxLo s)) → RowAt W A2 (intCells (boxHi s)) → Calls Try.prog 104 #[.agg #[.int .i64 s.f.eye, .int .i64 s.f.rings, .int .i64 s.f.sec, .slice z.a1 s.f.kinds.length z.c1, .slice z.a2 s.heights.length z.c2, .slice z.a3 s.compass.length z.c3, .slice z.a4 s.pockets.length z.c4, .int .i64 s.tol, .int .i64 mx, .int .i64 my, .int .i64 sum], .agg #[.int .i64 k, .int .i64 p, .int .i64 a, .int .i64 wx, .int .i64 wy, .slice A kids.length c], .slice A1 s.pockets.length c1, .slice A2 s.pockets.length c2] W fun e w' => e = .returned (.tuple #[.int .i64 m, .bool okk]) ∧ Below W.heap.size W w') := by
    intro h1 h2 A1 A2 c1 c2 W h r1 r2
    have hpe : proofA s z sum = #[.int .i64 s.f.eye, .int .i64 s.f.rings, .int .i64 s.f.sec, .slice z.a1 s.f.kinds.length z.c1, .slice z.a2 s.heights.length z.c2, .slice z.a3 s.compass.length z.c3, .slice z.a4 s.pockets.length z.c4, .int .i64 s.tol, .int .i64 mx, .int .i64 my, .int .i64 sum] := by rw [proofA, hmx, hmy]; rfl
    rw [← hpe]
    exact HCK.out h1 h2 A1 A2 c1 c2 W h r1 r2
  rw [hmx, hmy] at HM
  clear hmx hmy
  have X0 : Bk ((w.alloc (.cells (s.cells z) 28)).alloc (.cells #[.int .i64 k, .int .i64 p, .int .i64 a, .int .i64 wx, .int .i64 wy, .slice A kids.length c] 49)) w.heap.size 28 (s.cells z) := (bk_last rfl).alloc _
  have Y0 : Bk ((w.alloc (.cells (s.cells z) 28)).alloc (.cells #[.int .i64 k, .int .i64 p, .int .i64 a, .int .i64 wx, .int .i64 wy, .slice A kids.length c] 49)) (w.heap.size + 1) 49 #[.int .i64 k, .int .i64 p, .int .i64 a, .int .i64 wx, .int .i64 wy, .slice A kids.length c] := bk_last (by simp)
  have hB : Below w.heap.size w ((w.alloc (.cells (s.cells z) 28)).alloc (.cells #[.int .i64 k, .int .i64 p, .int .i64 a, .int .i64 wx, .int .i64 wy, .slice A kids.length c] 49)) := ((Below.refl _ _).alloc (Nat.le_refl _) _).alloc (by simp) _
  unfold Stn.cells at HC HM HBX X0 Y0 hB
  show Calls Try.prog 55 #[s.val z, .int .i64 sum, .agg #[.int .i64 k, .int .i64 p, .int .i64 a, .int .i64 wx, .int .i64 wy, .slice A kids.length c]] w _
  unfold Stn.val Stn.cells pairV
  go_enter Try.func55, Try.ntmps55
  go_wp2_with fail
  generalize (w.alloc (.cells _ 28)).alloc (.cells _ 49) = V at *
  refine (HC.out _ (hs.below hB)).mono ?_
  rintro e w1 ⟨rfl, hb1⟩
  have hB1 := hB.trans (hb1.mono hB.size)
  have X1 : Bk w1 w.heap.size 28 (s.cells z) := X0.keep hb1
  have Y1 := Y0.keep hb1
  clear X0 Y0 hB HC hb1
  obtain ⟨x0, x1, x2, x3, x4, x5, x6, x7⟩ := stn_cell0 X1
  have y0 := Y1.cell 0
  have y1 := Y1.cell 1
  have y2 := Y1.cell 2
  have y3 := Y1.cell 3
  have y4 := Y1.cell 4
  have y5 := Y1.cell 5
  simp at y0 y1 y2 y3 y4 y5
  by_cases hok : s.ok = true
  · rw [show checkE s = 0 by simp [checkE, hok]]
    simp only [hok, if_true] at HCT
    have HK := Lib.hid hok
    clear hok
    go_wp2_with fail
    refine (HNN.out _ hB1).mono ?_
    rintro e w2 ⟨rfl, hb2⟩
    have hB2 := hB1.trans (hb2.mono hB1.size)
    replace X1 := X1.keep hb2
    replace Y1 := Y1.keep hb2
    clear hB1 hb2 HNN x0 x1 x2 x3 x4 x5 x6 x7 y0 y1 y2 y3 y4 y5
    by_cases hS : 200000 < S
    · simp only [hS, if_true] at HCT
      have hmin : (200000 : Int) < min (S : Int) 200001 := by omega
      generalize min (S : Int) 200001 = mn at *
      go_wp2_with fail
      go_ret2
      exact ⟨by rw [HCT.out]; rfl, hB2⟩
    · simp only [hS, if_false] at HCT
      have hmin : ¬ (200000 : Int) < min (S : Int) 200001 := by omega
      have HCK2 := Lib.hid (HCK.out HK.out hS)
      clear HCK hS
      generalize min (S : Int) 200001 = mn at *
      obtain ⟨x0, x1, x2, x3, x4, x5, x6, x7⟩ := stn_cell0 X1
      go_wp2_with fail
      refine (HBX.out _ (hs.below hB2) HK.out).mono ?_
      rintro e w3 ⟨A1, A2, c1, c2, rfl, h1, h2, hb3⟩
      have hB3 := hB2.trans (hb3.mono hB2.size)
      replace X1 := X1.keep hb3
      replace Y1 := Y1.keep hb3
      clear hB2 hb3 HBX x0 x1 x2 x3 x4 x5 x6 x7 hmin
      go_upto_region 7 with fail
      obtain ⟨x0, x1, x2, x3, x4, x5, x6, x7⟩ := stn_cell0 X1
      have y0 := Y1.cell 0
      have y1 := Y1.cell 1
      have y2 := Y1.cell 2
      have y3 := Y1.cell 3
      have y4 := Y1.cell 4
      have y5 := Y1.cell 5
      simp at y0 y1 y2 y3 y4 y5
      have HM2 : Hid (∀ x : Ext w3, Calls Try.prog 77 #[.agg #[.int .i64 s.f.eye, .int .i64 s.f.rings, .int .i64 s.f.sec, .slice z.a1 s.f.kinds.length z.c1, .slice z.a2 s.heights.length z.c2, .slice z.a3 s.compass.length z.c3, .slice z.a4 s.pockets.length z.c4, .int .i64 s.tol]] x.w fun e w' => e = .returned (.agg #[.int .i64 mx, .int .i64 my]) ∧ Below x.w.heap.size x.w w') := fun x => HM.out _ ((hs.below hB3).below x.bel) HK.out
      have HC2 : Hid (∀ x : Ext w3, Calls Try.prog 104 #[.agg #[.int .i64 s.f.eye, .int .i64 s.f.rings, .int .i64 s.f.sec, .slice z.a1 s.f.kinds.length z.c1, .slice z.a2 s.heights.length z.c2, .slice z.a3 s.compass.length z.c3, .slice z.a4 s.pockets.length z.c4, .int .i64 s.tol, .int .i64 mx, .int .i64 my, .int .i64 sum], .agg #[.int .i64 k, .int .i64 p, .int .i64 a, .int .i64 wx, .int .i64 wy, .slice A kids.length c], .slice A1 s.pockets.length c1, .slice A2 s.pockets.length c2] x.w fun e w' => e = .returned (.tuple #[.int .i64 m, .bool okk]) ∧ Below x.w.heap.size x.w w') := fun x => HCK2.out A1 A2 c1 c2 x.w (hB3.trans (x.bel.mono hB3.size)) (h1.below x.bel) (h2.below x.bel)
      replace x0 := fun x : Ext w3 => keepc x.bel x0
      replace x1 := fun x : Ext w3 => keepc x.bel x1
      replace x2 := fun x : Ext w3 => keepc x.bel x2
      replace x3 := fun x : Ext w3 => keepc x.bel x3
      replace x4 := fun x : Ext w3 => keepc x.bel x4
      replace x5 := fun x : Ext w3 => keepc x.bel x5
      replace x6 := fun x : Ext w3 => keepc x.bel x6
      replace x7 := fun x : Ext w3 => keepc x.bel x7
      replace y0 := fun x : Ext w3 => keepc x.bel y0
      replace y1 := fun x : Ext w3 => keepc x.bel y1
      replace y2 := fun x : Ext w3 => keepc x.bel y2
      replace y3 := fun x : Ext w3 => keepc x.bel y3
      replace y4 := fun x : Ext w3 => keepc x.bel y4
      replace y5 := fun x : Ext w3 => keepc x.bel y5
      clear h1 h2 hs HCK2 HM ht
      refine wp_region_ext (by kernel_rfl) (by kernel_rfl) ?_
      repeat (go_big_quiet_step ((first | (go_at_call 77; exact ext_of (HM2.out _)) | (go_at_call 104; exact ext_of (HC2.out _)))))
      refine wpQuiet_nil ?_
      rintro _ ⟨y, rfl⟩
      clear x0 x1 x2 x3 x4 x5 x6 x7 y0 y1 y2 y3 y4 y5 HM2 HC2
      have hb4 := y.bel
      have hB4 := hB3.trans (hb4.mono hB3.size)
      generalize y.w = w4 at hB4 ⊢
      cases okk
      · simp only [Bool.false_eq_true, if_false] at HCT
        go_wp2_with fail
        go_ret2
        exact ⟨by rw [HCT.out]; rfl, hB4⟩
      · simp only [if_true] at HCT
        go_wp2_with fail
        go_ret2
        exact ⟨by rw [HCT.out]; rfl, hB4⟩
  · have hok' : s.ok = false := by simpa using hok
    simp only [hok', Bool.false_eq_true, if_false] at HCT
    rw [show checkE s = 60 by simp [checkE, hok']]
    go_wp2_with fail
    go_ret2
    exact ⟨by rw [HCT.out]; rfl, hB1⟩

end Go.Proofs.Ythmngnfdfelkeaa
