/-
  What is proved: the contract of the reference's look.
-/
import Derived.Test.YthmngnfdfelkeaaMg27
import Derived.Test.YthmngnfdfelkeaaMg24
import Derived.Test.YthmngnfdfelkeaaRWithMg
namespace Go.Proofs.Ythmngnfdfelkeaa
open Go.RowKit
attribute [local go_sem ↓] max_int min_int

/-- What all leads come to: how many balance, the first with the least sum, the error. -/
def lookR (s : Stn) : Int × List Int × Int :=
  if s.ok then if prodM (mosts s) ≤ 200000 then ((manyN s (prodM (mosts s)) : Nat), bestL s (prodM (mosts s)), 0) else (0, [], 2) else (0, [], 60)

def LookPost (s : Stn) (w : World) (e : Ending) (w' : World) : Prop :=
  ∃ v, e = .returned (.tuple #[.agg #[.int .i64 (lookR s).1, v], .int .i64 (lookR s).2.2]) ∧ w'.ownsRow w.heap.size 3 1 v (lookR s).2.1.length (intCells (lookR s).2.1) ∧ Below w.heap.size w w'

set_option maxRecDepth 100000 in
set_option maxHeartbeats 8000000 in
theorem rlook_any (s : Stn) (z : Loc) (w : World) (hs : StAt w s z) : Calls Try.prog 66 #[s.val z] w (LookPost s w) := by
  obtain ⟨i0, hi0, hz0, hz1, hz2⟩ := info_parts intInfo
  have n4 := hs.n4
  have HC : Hid (∀ W, Below w.heap.size w W → Calls Try.prog 51 #[.agg (s.cells z)] W fun e w' => e = .returned (.int .i64 (checkE s)) ∧ Below W.heap.size W w') := fun W h => rcheck_any s z W (hs.below h)
  have HL : Hid (∀ W, Below w.heap.size w W → s.ok = true → Calls Try.prog 61 #[.agg (s.cells z), .int .i64 200000] W fun e w' => e = .returned (.int .i64 (min (prodM (mosts s) : Int) 200001)) ∧ Below W.heap.size W w') := fun W h h2 => rleads_any s z 200000 W (hs.below h) h2 (by omega)
  have HM : Hid (∀ W, Below w.heap.size w W → s.ok = true → Calls Try.prog 77 #[.agg (s.cells z)] W fun e w' => e = .returned (.agg #[.int .i64 (momX s s.f.kinds.length), .int .i64 (momY s s.f.kinds.length)]) ∧ Below W.heap.size W w') := fun W h h2 => rmoment_any s z W (hs.below h) h2
  have X0 : Bk ((w.alloc (.cells (s.cells z) 28)).alloc (.cells #[.int .i64 0, .slice none 0 0] 88)) w.heap.size 28 (s.cells z) := (bk_last rfl).alloc _
  have R0 : Bk ((w.alloc (.cells (s.cells z) 28)).alloc (.cells #[.int .i64 0, .slice none 0 0] 88)) (w.heap.size + 1) 88 #[.int .i64 0, .slice none 0 0] := bk_last (by simp)
  have hB : Below w.heap.size w ((w.alloc (.cells (s.cells z) 28)).alloc (.cells #[.int .i64 0, .slice none 0 0] 88)) := ((Below.refl _ _).alloc (Nat.le_refl _) _).alloc (by simp) _
  unfold Stn.cells at HC HL HM X0 R0 hB
  unfold Stn.val Stn.cells
  go_enter Try.func66, Try.ntmps66
  go_wp2_with fail
  generalize (w.alloc (.cells _ 28)).alloc (.cells _ 88) = V at *
  refine (HC.out _ hB).mono ?_
  rintro e w1 ⟨rfl, hb1⟩
  have hB1 := hB.trans (hb1.mono hB.size)
  have X1 : Bk w1 w.heap.size 28 (s.cells z) := X0.keep hb1
  have R1 := R0.keep hb1
  clear X0 R0 hB hb1 HC
  obtain ⟨x0, x1, x2, x3, x4, x5, x6, x7⟩ := stn_cell0 X1
  have r0 := R1.cell 0
  have r1 := R1.cell 1
  have r2 := R1.fz 0
  have r3 := R1.fz 1
  have rl := R1.lt
  simp at r0 r1
  by_cases hok : s.ok = true
  · rw [show checkE s = 0 by simp [checkE, hok]]
    go_wp2_with fail
    refine (HL.out _ hB1 hok).mono ?_
    rintro e w2 ⟨rfl, hb2⟩
    have hB2 := hB1.trans (hb2.mono hB1.size)
    have X2 := X1.keep hb2
    have R2 := R1.keep hb2
    clear X1 R1 hB1 hb2 HL x0 x1 x2 x3 x4 x5 x6 x7 r0 r1 r2 r3 rl
    obtain ⟨x0, x1, x2, x3, x4, x5, x6, x7⟩ := stn_cell0 X2
    have r0 := R2.cell 0
    have r1 := R2.cell 1
    have r2 := R2.fz 0
    have r3 := R2.fz 1
    have rl := R2.lt
    simp at r0 r1
    by_cases hp : prodM (mosts s) ≤ 200000
    · have hpm : min (prodM (mosts s) : Int) 200001 ≤ 200000 := by omega
      go_wp2_with fail
      refine (HM.out _ hB2 hok).mono ?_
      rintro e w4 ⟨rfl, hb4⟩
      have hB4 := hB2.trans (hb4.mono hB2.size)
      have X4 := X2.keep hb4
      have R4 := R2.keep hb4
      clear X2 R2 hB2 hb4 HM x0 x1 x2 x3 x4 x5 x6 x7 r0 r1 r2 r3 rl hpm
      have hs4 := hs.below hB4
      have hml := mosts_len s
      have hpl := (stn_ok hok).2.2.2.2.1
      have hu1 := X4.lt
      have hu2 := R4.lt
      obtain ⟨x0, x1, x2, x3, x4, x5, x6, x7⟩ := stn_cell0 X4
      obtain ⟨w5, hw5⟩ : ∃ W, (w4.alloc (.cells #[.int .i64 (momX s s.f.kinds.length), .int .i64 (momY s s.f.kinds.length)] 43)).alloc (.cells #[.int .i64 0, .slice none 0 0] 88) = W := ⟨_, rfl⟩
      have HW5 := Lib.hid hw5
      have h5z : w5.heap.size = w4.heap.size + 2 := by rw [← hw5]; simp
      have M5 : Bk w5 w4.heap.size 43 #[.int .i64 (momX s s.f.kinds.length), .int .i64 (momY s s.f.kinds.length)] := by rw [← hw5]; exact (bk_last rfl).alloc _
      have N5 : Bk w5 (w4.heap.size + 1) 88 #[.int .i64 0, .slice none 0 0] := by rw [← hw5]; exact bk_last (by simp)
      have h45 : Below w4.heap.size w4 w5 := by rw [← hw5]; exact ((Below.refl _ _).alloc (Nat.le_refl _) _).alloc (by simp) _
      have HZ5 := Lib.hid h5z
      clear hw5 h5z
      have bb2 : i0.bytes * s.pockets.length ≤ 281474976710656 := by rw [hz2]; omega
      have bb3 : s.pockets.length ≤ maxLen := by unfold maxLen; omega
      have y6 : w5.cell? ⟨w.heap.size, 6, none⟩ = some (.slice z.a4 s.pockets.length z.c4) := keepc h45 x6
      go_upto_region 8 with fail
      rw [HW5.out]
      clear HW5 x0 x1 x2 x3 x4 x5 x6 x7
      go_wp2_with (at_make; refine (wpList_make_full _ rfl _ _ 22 rfl w5.heap.size 3 i0 _ 1 Try.underlying22 hi0 hz0 hz1 .i64 .i64 _ _ s.pockets.length rfl rfl rfl rfl bb2 bb3 (Nat.le_refl _) ?_); intro w6 hown hgr)
      have hmade : (madeCells (Value.int IntKind.i64 0).cells (s.pockets.length * 1)).toList = intCells (leadN s 0) := by
        rw [Nat.mul_one, leadN, leadAt_zero, toI_zeros, hml]
        show (madeCells #[Value.int IntKind.i64 0] s.pockets.length).toList = _
        rw [toList_madeCells_one]
        simp [intCells]
      rw [hmade] at hown
      have h46 : Below w4.heap.size w4 w6 := h45.grown hgr (by have := HZ5.out; omega) (fun r e => by cases e)
      have M6 := M5.grown hgr (by simp)
      have h5z := HZ5.out
      have N6 := N5.grown hgr (by simp)
      have h6z := hgr.size
      have hpos := prodM_pos (mosts s)
      clear hmade hgr M5 N5 h45 y6 bb2 bb3
      have HWi : Hid (∀ (W : World) (k : Nat) (c : Nat), Below w4.heap.size w4 W → k < prodM (mosts s) → RowAt W (some ⟨w5.heap.size, 0, none⟩) (intCells (leadN s k)) → Calls Try.prog 98 #[.agg #[.int .i64 s.f.eye, .int .i64 s.f.rings, .int .i64 s.f.sec, .slice z.a1 s.f.kinds.length z.c1, .slice z.a2 s.heights.length z.c2, .slice z.a3 s.compass.length z.c3, .slice z.a4 s.pockets.length z.c4, .int .i64 s.tol], .agg #[.int .i64 (momX s s.f.kinds.length), .int .i64 (momY s s.f.kinds.length)], .slice (some ⟨w5.heap.size, 0, none⟩) s.pockets.length c] W fun e w' => e = .returned (.agg #[.int .i64 (withX s (leadN s k) (leadN s k).length), .int .i64 (withY s (leadN s k) (leadN s k).length)]) ∧ Below W.heap.size W w') := fun W k c hb hk hr => by
        have hlp := (leadB_iff s _).1 (leadN_ok hok hk)
        have h := rwithM_any s z (some ⟨w5.heap.size, 0, none⟩) c (leadN s k) W (hs4.below hb) hok hr hlp
        rw [hlp.1] at h
        rw [hlp.1]
        exact h
      have HFi : Hid (∀ (W : World) (k : Nat), Calls Try.prog 99 #[.agg #[.int .i64 s.f.eye, .int .i64 s.f.rings, .int .i64 s.f.sec, .slice z.a1 s.f.kinds.length z.c1, .slice z.a2 s.heights.length z.c2, .slice z.a3 s.compass.length z.c3, .slice z.a4 s.pockets.length z.c4, .int .i64 s.tol], .agg #[.int .i64 (withX s (leadN s k) (leadN s k).length), .int .i64 (withY s (leadN s k) (leadN s k).length)]] W fun e w' => e = .returned (.bool (stillB s (leadN s k))) ∧ Below W.heap.size W w') := fun W k => rfits_any s z _ _ W hok
      have HFo : Hid (∀ (W : World) (k : Nat) (c : Nat), Below w4.heap.size w4 W → k < prodM (mosts s) → W.ownsRow w5.heap.size 3 1 (.slice (some ⟨w5.heap.size, 0, none⟩) s.pockets.length c) s.pockets.length (intCells (leadN s k)) → Calls Try.prog 111 #[.agg #[.int .i64 s.f.eye, .int .i64 s.f.rings, .int .i64 s.f.sec, .slice z.a1 s.f.kinds.length z.c1, .slice z.a2 s.heights.length z.c2, .slice z.a3 s.compass.length z.c3, .slice z.a4 s.pockets.length z.c4, .int .i64 s.tol], .slice (some ⟨w5.heap.size, 0, none⟩) s.pockets.length c] W fun e w' => e = .returned (.bool (decide (k + 1 < prodM (mosts s)))) ∧ w'.ownsRow w5.heap.size 3 1 (.slice (some ⟨w5.heap.size, 0, none⟩) s.pockets.length c) s.pockets.length (intCells (follL s k)) ∧ W.grownBy w' (some w5.heap.size)) := fun W k c hb hk ho => rfollow_any s z w5.heap.size k w5.heap.size c w4 W hs4 hok hb (by omega) hk ho
      have HR := Lib.hid (show lookR s = (((manyN s (prodM (mosts s)) : Nat) : Int), bestL s (prodM (mosts s)), 0) by simp [lookR, hok, hp])
      have HBS : Hid (∀ k, k ≤ prodM (mosts s) → (bestL s k).length ≤ 8 ∧ ∀ x ∈ bestL s k, 0 ≤ x ∧ x ≤ 255) := fun k hk => bestL_small hok k hk
      have HLS : Hid (∀ k, k < prodM (mosts s) → (leadN s k).length = s.pockets.length ∧ ∀ x ∈ leadN s k, 0 ≤ x ∧ x ≤ 255) := fun k hk => by
        have hlp := (leadB_iff s _).1 (leadN_ok hok hk)
        refine ⟨hlp.1, fun x hx => ?_⟩
        obtain ⟨i, hi, rfl⟩ := List.getElem_of_mem hx
        have h3 := hlp.2 i hi
        rw [getD_get _ _ hi] at h3
        obtain ⟨_, _, _, _, _, _, _, _, hpk⟩ := stn_ok hok
        have h4 := (hpk _ (getD_mem ((0, 0), 0) (show i < s.pockets.length by have := hlp.1; omega))).2.2
        omega
      generalize hG : w5.heap.size = G at *
      generalize hu : w4.heap.size = u at *
      have h5a : u + 2 ≤ G := by omega
      have h5b : G ≤ u + 2 := by omega
      clear h5z
      generalize momX s s.f.kinds.length = mx at *
      generalize momY s s.f.kinds.length = my at *
      clear hok hs4
      go_loopw [8] (fun mo wr => ∃ k : Nat, k ≤ prodM (mosts s) ∧ mo = .bool (decide (k < prodM (mosts s))) ∧ (k < prodM (mosts s) → wr.ownsRow G 3 1 (.slice (some ⟨G, 0, none⟩) s.pockets.length s.pockets.length) s.pockets.length (intCells (leadN s k))) ∧ Bk wr u 43 #[.int .i64 mx, .int .i64 my] ∧
        (∃ A c, Bk wr (u + 1) 88 #[.int .i64 (manyN s k : Nat), .slice A (bestL s k).length c] ∧ wr.ownsRow (G + 1) 3 1 (.slice A (bestL s k).length c) (bestL s k).length (intCells (bestL s k))) ∧ Below u w4 wr ∧ G < wr.heap.size)
        (fun mo wr => match mo with | .bool true => prodM (mosts s) - rankAt (mosts s) G wr | _ => 0)
      case atStart => exact ⟨0, Nat.zero_le _, by simp; omega, fun _ => hown, M6, ⟨none, 0, N6, World.ownsRow_nil _ _ _ _⟩, h46, (hown.lt _ rfl).2⟩
      case round =>
        clear hown M6 N6 h46
        obtain ⟨k, hk, rfl, hown, M, ⟨A, c, N, ho⟩, hBr, hGl⟩ := hrel
        have X := X4.below hBr hu1
        obtain ⟨x0, x1, x2, x3, x4, x5, x6, x7⟩ := stn_cell0 X
        by_cases hlt : k < prodM (mosts s)
        · rw [decide_eq_true hlt]
          have hown' := hown hlt
          have m0 := M.cell 0
          have m1 := M.cell 1
          simp at m0 m1
          have HW1 : Hid (∀ x : Ext wr, Calls Try.prog 98 #[.agg #[.int .i64 s.f.eye, .int .i64 s.f.rings, .int .i64 s.f.sec, .slice z.a1 s.f.kinds.length z.c1, .slice z.a2 s.heights.length z.c2, .slice z.a3 s.compass.length z.c3, .slice z.a4 s.pockets.length z.c4, .int .i64 s.tol], .agg #[.int .i64 mx, .int .i64 my], .slice (some ⟨G, 0, none⟩) s.pockets.length s.pockets.length] x.w fun e w' => e = .returned (.agg #[.int .i64 (withX s (leadN s k) (leadN s k).length), .int .i64 (withY s (leadN s k) (leadN s k).length)]) ∧ Below x.w.heap.size x.w w') := fun x => HWi.out x.w k s.pockets.length (hBr.trans (x.bel.mono (by have := hBr.size; omega))) hlt (by
            obtain ⟨A', c', e1, _, h, _⟩ := own_form hown'
            injection e1 with e1 _
            rw [e1]
            exact h.below x.bel)
          have HF1 : Hid (∀ x : Ext wr, Calls Try.prog 99 #[.agg #[.int .i64 s.f.eye, .int .i64 s.f.rings, .int .i64 s.f.sec, .slice z.a1 s.f.kinds.length z.c1, .slice z.a2 s.heights.length z.c2, .slice z.a3 s.compass.length z.c3, .slice z.a4 s.pockets.length z.c4, .int .i64 s.tol], .agg #[.int .i64 (withX s (leadN s k) (leadN s k).length), .int .i64 (withY s (leadN s k) (leadN s k).length)]] x.w fun e w' => e = .returned (.bool (stillB s (leadN s k))) ∧ Below x.w.heap.size x.w w') := fun x => HFi.out x.w k
          obtain ⟨sb, hsb⟩ : ∃ b, stillB s (leadN s k) = b := ⟨_, rfl⟩
          rw [hsb] at HF1
          generalize withX s (leadN s k) (leadN s k).length = vx at HW1 HF1
          generalize withY s (leadN s k) (leadN s k).length = vy at HW1 HF1
          go_upto_region 12 with fail
          refine wp_region_ext (by kernel_rfl) (by kernel_rfl) ?_
          have Y0 := fun x : Ext wr => keepc x.bel x0
          have Y1 := fun x : Ext wr => keepc x.bel x1
          have Y2 := fun x : Ext wr => keepc x.bel x2
          have Y3 := fun x : Ext wr => keepc x.bel x3
          have Y4 := fun x : Ext wr => keepc x.bel x4
          have Y5 := fun x : Ext wr => keepc x.bel x5
          have Y6 := fun x : Ext wr => keepc x.bel x6
          have Y7 := fun x : Ext wr => keepc x.bel x7
          have Y8 := fun x : Ext wr => keepc x.bel m0
          have Y9 := fun x : Ext wr => keepc x.bel m1
          clear x0 x1 x2 x3 x4 x5 x6 x7 m0 m1
          repeat (go_big_quiet_step ((first | (go_at_call 98; exact ext_of (HW1.out _)) | (go_at_call 99; exact ext_of (HF1.out _)))))
          refine wpQuiet_nil ?_
          rintro _ ⟨y, rfl⟩
          clear Y0 Y1 Y2 Y3 Y4 Y5 Y6 Y7 Y8 Y9 HW1 HF1
          have hb2 := y.bel
          generalize y.w = w2 at hb2 ⊢
          have X2 := X.keep hb2
          have M2 := M.keep hb2
          have N2 := N.keep hb2
          have own2 := own_keep hown' hb2
          have ho2 := own_keep ho hb2
          have hB2 := hBr.trans (hb2.mono (by have := hBr.size; omega))
          cases sb
          · have hm1 : Hid (manyN s (k + 1) = manyN s k) := by
              refine Lib.hid ?_
              simp only [manyN, hsb]
              rfl
            have hm2 : Hid (bestL s (k + 1) = bestL s k) := by
              refine Lib.hid ?_
              simp only [bestL, hsb]
              rfl
            clear X M N ho hb2 hBr hsb
            obtain ⟨x0, x1, x2, x3, x4, x5, x6, x7⟩ := stn_cell0 X2
            have hzW : u ≤ w2.heap.size := by have := hB2.size; omega
            have hGW : G < w2.heap.size := (own2.lt _ rfl).2
            go_wp2_with fail
            refine (HFo.out w2 k s.pockets.length hB2 hlt own2).mono ?_
            rintro e w9 ⟨rfl, ho9, hg9⟩
            have M9 := M2.grown hg9 (by simp; omega)
            have N9 := N2.grown hg9 (by simp; omega)
            have hb9 := ho2.kept hg9 (.inr (fun e => by have h5 := (ho2.lt _ e).1; omega))
            have hB9 := hB2.grown hg9 hzW (fun r e => by injection e with e; omega)
            have hz9 := hg9.size
            clear x0 x1 x2 x3 x4 x5 x6 x7
            go_wp2_with fail
            go_roundw
            case rel => exact ⟨k + 1, by omega, rfl, fun h => by rw [follL, if_pos h] at ho9; exact ho9, M9, ⟨_, _, by rw [hm1.out, hm2.out]; exact N9, by rw [hm2.out]; exact hb9⟩, hB9, by omega⟩
            case measure =>
              have r1 : rankAt (mosts s) G wr = k := rankAt_own (c := s.pockets.length) hlt (by rw [hml]; exact hown')
              rw [r1]
              by_cases h2 : k + 1 < prodM (mosts s)
              · rw [follL, if_pos h2] at ho9
                rw [decide_eq_true h2]
                simp only
                have r2 : rankAt (mosts s) G w9 = k + 1 := rankAt_own (c := s.pockets.length) h2 (by rw [hml]; exact ho9)
                rw [r2]
                omega
              · rw [decide_eq_false h2]
                simp only
                omega
          · have n0 := N2.cell 0
            have n1 := N2.cell 1
            simp at n0 n1
            have hmk := manyN_le s k
            clear X M N ho hb2 hBr
            by_cases hmz : manyN s k = 0
            · have hcond : manyN s k = 0 ∨ sumL (leadN s k) < sumL (bestL s k) := .inl hmz
              rw [hmz] at n0
              go_upto_region 13 with fail
              refine wp_region_ext (by kernel_rfl) (by kernel_rfl) ?_
              have Y0 := fun x : Ext w2 => keepc x.bel n0
              have Y1 := fun x : Ext w2 => keepc x.bel n1
              clear n0 n1
              repeat (go_big_quiet_step (fail))
              refine wpQuiet_nil ?_
              rintro _ ⟨y, rfl⟩
              clear Y0 Y1
              have hb3 := y.bel
              generalize y.w = w3 at hb3 ⊢
              have X3 := X2.keep hb3
              have M3 := M2.keep hb3
              have N3 := N2.keep hb3
              have own3 := own_keep own2 hb3
              have ho3 := own_keep ho2 hb3
              have hB3 := hB2.trans (hb3.mono (by have := hB2.size; omega))
              clear X2 M2 N2 own2 ho2 hB2 hb3

              have hbest : Hid (bestL s (k + 1) = leadN s k) := by
                refine Lib.hid ?_
                simp only [bestL, hsb, if_true]
                rw [if_pos hcond]
              have hmany : Hid (manyN s (k + 1) = manyN s k + 1) := by
                refine Lib.hid ?_
                simp only [manyN, hsb, if_true]
              obtain ⟨hle, hls⟩ := HLS.out k hlt
              have hrowB : RowB w3 G 0 (intCells (leadN s k)) := ⟨(own3.lt _ rfl).2, fun j u hu => by
                obtain ⟨A', c', e1, _, h, _⟩ := own_form own3
                injection e1 with e1 _
                by_cases h0 : 0 < (intCells (leadN s k)).length
                · obtain ⟨b, off, e2, _, h3⟩ := h h0
                  rw [e2] at e1
                  injection e1 with e1
                  injection e1 with e3 e4
                  subst e3 e4
                  exact h3 j u hu
                · have := (List.getElem?_eq_some_iff.1 hu).1
                  omega⟩
              have hx1 := (hrowB.alloc (Obj.cells #[] 3)).add
              have E := Lib.hid (And.intro hx1 (And.intro (intCells_one (leadN s k)) (And.intro (show 0 + s.pockets.length ≤ maxLen by unfold maxLen; omega) (And.intro (show (0 + s.pockets.length) * 8 ≤ 140737488355328 by omega) (And.intro (show w3.heap.size ≤ (w3.alloc (Obj.cells #[] 3)).heap.size by simp) (show (intCells (leadN s k)).length = s.pockets.length * 1 by rw [intCells_len]; omega))))))
              have HN3 := Lib.hid (And.intro N3 (And.intro M3 (And.intro own3 hB3)))
              have hGl3 : G < w3.heap.size := (own3.lt _ rfl).2
              have hB3w : u ≤ w3.heap.size := by omega
              have hNne : u + 1 < w3.heap.size := N3.lt
              clear hx1 hrowB ho3 N3 M3 own3
              go_upto_region 11 with (at_builtin; go_loud (refine wpList_append_own _ rfl _ _ 22 rfl w3.heap.size 3 i0 _ 1 8 Try.underlying22 hi0 hz0 hz1 hz2 rfl (by decide) _ _ _ rfl (World.ownsRow_made w3 #[] 0 (Nat.le_refl _) (Nat.zero_le _) rfl) ⟨G, 0, none⟩ s.pockets.length s.pockets.length (intCells (leadN s k)) rfl E.out.2.2.2.2.2 E.out.1 E.out.2.1 E.out.2.2.1 E.out.2.2.2.1 E.out.2.2.2.2.1 ?_); go_loud (intro v7 w7 hown7 hg7 _; obtain ⟨A7, c7, rfl, _, _, _⟩ := own_form hown7; have N7 := (HN3.out.1.alloc (.cells #[] 3)).grown hg7 (fun e => by have e2 : u + 1 = w3.heap.size := Option.some.inj e; omega); have n0 := N7.cell 0; have n2 := N7.fz 0; have n3 := N7.fz 1; have n4 := N7.cell 1; have nl := N7.lt; simp at n0 n4))

              have hz1 : ((manyN s k + 1 : Nat) : Int) = 1 := by omega

              have hown7' : w7.ownsRow w3.heap.size 3 1 (.slice A7 (leadN s k).length c7) (leadN s k).length (intCells (leadN s k)) := by
                rw [hle]
                simpa using hown7
              have hne7 : some G ≠ (Value.slice (some ⟨w3.heap.size, 0, none⟩) 0 0).ownBlock := fun e => by
                have e2 : G = w3.heap.size := Option.some.inj e
                omega
              have hb3w := hB3w
              have M8 := ((((HN3.out.2.1.alloc (.cells #[] 3)).grown hg7 (fun e => by have e2 : u = w3.heap.size := Option.some.inj e; omega)).far (p := ⟨u + 1, 1, none⟩) (by simp) (.slice A7 s.pockets.length c7)).far (p := ⟨u + 1, 0, none⟩) (by simp) (.int .i64 1))
              have X8 := ((((X3.alloc (.cells #[] 3)).grown hg7 (fun e => by have e2 : w.heap.size = w3.heap.size := Option.some.inj e; omega)).far (p := ⟨u + 1, 1, none⟩) (by simp; omega) (.slice A7 s.pockets.length c7)).far (p := ⟨u + 1, 0, none⟩) (by simp; omega) (.int .i64 1))
              have own8 := own_far (a := ⟨u + 1, 0, none⟩) (own_far (a := ⟨u + 1, 1, none⟩) ((HN3.out.2.2.1.alloc (.cells #[] 3)).kept hg7 (.inr hne7)) (fun e => by have e2 : G = u + 1 := Option.some.inj e; omega) (.slice A7 s.pockets.length c7)) (fun e => by have e2 : G = u + 1 := Option.some.inj e; omega) (.int .i64 1)
              have ho8 := own_base (base' := G + 1) (own_far (a := ⟨u + 1, 0, none⟩) (own_far (a := ⟨u + 1, 1, none⟩) hown7' (fun e => by have h5 := (hown7'.lt _ e).1; simp only at h5; omega) (.slice A7 s.pockets.length c7)) (fun e => by have h5 := (hown7'.lt _ e).1; simp only at h5; omega) (.int .i64 1)) (by omega)
              have N8 : Bk ((w7.setCell ⟨u + 1, 1, none⟩ (.slice A7 s.pockets.length c7)).setCell ⟨u + 1, 0, none⟩ (.int .i64 1)) (u + 1) 88 #[.int .i64 ((manyN s k + 1 : Nat) : Int), .slice A7 (leadN s k).length c7] := by
                rw [hle, hz1]
                exact (N7.put 1 (.slice A7 s.pockets.length c7)).put 0 (.int .i64 1)
              have hB8 : Below u w4 ((w7.setCell ⟨u + 1, 1, none⟩ (.slice A7 s.pockets.length c7)).setCell ⟨u + 1, 0, none⟩ (.int .i64 1)) := (((HN3.out.2.2.2.alloc hb3w (.cells #[] 3)).grown hg7 (by simp; omega) (fun r e => by have e2 : w3.heap.size = r := Option.some.inj e; omega)).setCell (p := ⟨u + 1, 1, none⟩) (by simp) _).setCell (p := ⟨u + 1, 0, none⟩) (by simp) _
              clear HN3 N7 n0 n2 n3 n4 hg7 hown7 hown7' X3 E nl
              generalize (w7.setCell ⟨u + 1, 1, none⟩ (.slice A7 s.pockets.length c7)).setCell ⟨u + 1, 0, none⟩ (.int .i64 1) = w8 at *
              obtain ⟨x0, x1, x2, x3, x4, x5, x6, x7⟩ := stn_cell0 X8
              have hzW : u ≤ w8.heap.size := by have := hB8.size; omega
              have hGW : G < w8.heap.size := (own8.lt _ rfl).2
              go_wp2_with fail
              refine (HFo.out w8 k s.pockets.length hB8 hlt own8).mono ?_
              rintro e w9 ⟨rfl, ho9, hg9⟩
              have M9 := M8.grown hg9 (by simp; omega)
              have N9 := N8.grown hg9 (by simp; omega)
              have hb9 := ho8.kept hg9 (.inr (fun e => by have h5 := (ho8.lt _ e).1; omega))
              have hB9 := hB8.grown hg9 hzW (fun r e => by injection e with e; omega)
              have hz9 := hg9.size
              clear x0 x1 x2 x3 x4 x5 x6 x7
              go_wp2_with fail
              go_roundw
              case rel => exact ⟨k + 1, by omega, rfl, fun h => by rw [follL, if_pos h] at ho9; exact ho9, M9, ⟨_, _, by rw [hmany.out, hbest.out]; exact N9, by rw [hbest.out]; exact hb9⟩, hB9, by omega⟩
              case measure =>
                have r1 : rankAt (mosts s) G wr = k := rankAt_own (c := s.pockets.length) hlt (by rw [hml]; exact hown')
                rw [r1]
                by_cases h2 : k + 1 < prodM (mosts s)
                · rw [follL, if_pos h2] at ho9
                  rw [decide_eq_true h2]
                  simp only
                  have r2 : rankAt (mosts s) G w9 = k + 1 := rankAt_own (c := s.pockets.length) h2 (by rw [hml]; exact ho9)
                  rw [r2]
                  omega
                · rw [decide_eq_false h2]
                  simp only
                  omega
            · have hq1 : (((manyN s k : Nat) : Int) == 0) = false := by simp; omega
              obtain ⟨hle1, hls1⟩ := HLS.out k hlt
              obtain ⟨hbe, hbs⟩ := HBS.out k hk
              have HQ1 : Hid (∀ x : Ext w2, Calls Try.prog 63 #[.slice (some ⟨G, 0, none⟩) s.pockets.length s.pockets.length] x.w fun e w' => e = .returned (.int .i64 (sumL (leadN s k))) ∧ x.w = w') := fun x => by
                obtain ⟨A', c', e1, _, h, _⟩ := own_form own2
                injection e1 with e1 _
                have := rsum_any (some ⟨G, 0, none⟩) s.pockets.length (leadN s k) x.w (by rw [e1]; exact h.below x.bel) (by omega) (fun y hy => by have := hls1 y hy; omega)
                rw [hle1] at this
                rw [sumL, hle1]
                exact this
              have HQ2 : Hid (∀ x : Ext w2, Calls Try.prog 63 #[.slice A (bestL s k).length c] x.w fun e w' => e = .returned (.int .i64 (sumL (bestL s k))) ∧ x.w = w') := fun x => by
                obtain ⟨A', c', e1, _, h, _⟩ := own_form ho2
                injection e1 with e1 _
                exact rsum_any A c (bestL s k) x.w (by rw [e1]; exact h.below x.bel) (by omega) (fun y hy => by have := hbs y hy; omega)
              obtain ⟨lb, hlb⟩ : ∃ v, (bestL s k).length = v := ⟨_, rfl⟩
              obtain ⟨s1, hs1⟩ : ∃ v, sumL (leadN s k) = v := ⟨_, rfl⟩
              obtain ⟨s2, hs2⟩ : ∃ v, sumL (bestL s k) = v := ⟨_, rfl⟩
              rw [hs1] at HQ1
              rw [hlb, hs2] at HQ2
              rw [hlb] at n1
              have HLB := Lib.hid (And.intro hlb (And.intro hs1 hs2))
              clear hlb hs1 hs2
              go_upto_region 13 with fail
              refine wp_region_ext (by kernel_rfl) (by kernel_rfl) ?_
              have Y0 := fun x : Ext w2 => keepc x.bel n0
              have Y1 := fun x : Ext w2 => keepc x.bel n1
              clear n0 n1
              repeat (go_big_quiet_step (fail))
              go_big_quiet_step ((go_at_call 63; exact ext_same (HQ1.out _)))
              repeat (go_big_quiet_step (fail))
              go_big_quiet_step ((go_at_call 63; exact ext_same (HQ2.out _)))
              repeat (go_big_quiet_step (fail))
              refine wpQuiet_nil ?_
              rintro _ ⟨y, rfl⟩
              clear Y0 Y1 HQ1 HQ2
              have hb3 := y.bel
              generalize y.w = w3 at hb3 ⊢
              have X3 := X2.keep hb3
              have M3 := M2.keep hb3
              have N3 := N2.keep hb3
              have own3 := own_keep own2 hb3
              have ho3 := own_keep ho2 hb3
              have hB3 := hB2.trans (hb3.mono (by have := hB2.size; omega))
              clear X2 M2 N2 own2 ho2 hB2 hb3
              by_cases hlo : s1 < s2
              · have hcond : manyN s k = 0 ∨ sumL (leadN s k) < sumL (bestL s k) := .inr (by rw [HLB.out.2.1, HLB.out.2.2]; exact hlo)
                have hbest : Hid (bestL s (k + 1) = leadN s k) := by
                  refine Lib.hid ?_
                  simp only [bestL, hsb, if_true]
                  rw [if_pos hcond]
                have hmany : Hid (manyN s (k + 1) = manyN s k + 1) := by
                  refine Lib.hid ?_
                  simp only [manyN, hsb, if_true]
                obtain ⟨hle, hls⟩ := HLS.out k hlt
                have hrowB : RowB w3 G 0 (intCells (leadN s k)) := ⟨(own3.lt _ rfl).2, fun j u hu => by
                  obtain ⟨A', c', e1, _, h, _⟩ := own_form own3
                  injection e1 with e1 _
                  by_cases h0 : 0 < (intCells (leadN s k)).length
                  · obtain ⟨b, off, e2, _, h3⟩ := h h0
                    rw [e2] at e1
                    injection e1 with e1
                    injection e1 with e3 e4
                    subst e3 e4
                    exact h3 j u hu
                  · have := (List.getElem?_eq_some_iff.1 hu).1
                    omega⟩
                have hx1 := (hrowB.alloc (Obj.cells #[] 3)).add
                have E := Lib.hid (And.intro hx1 (And.intro (intCells_one (leadN s k)) (And.intro (show 0 + s.pockets.length ≤ maxLen by unfold maxLen; omega) (And.intro (show (0 + s.pockets.length) * 8 ≤ 140737488355328 by omega) (And.intro (show w3.heap.size ≤ (w3.alloc (Obj.cells #[] 3)).heap.size by simp) (show (intCells (leadN s k)).length = s.pockets.length * 1 by rw [intCells_len]; omega))))))
                have HN3 := Lib.hid (And.intro N3 (And.intro M3 (And.intro own3 hB3)))
                have hGl3 : G < w3.heap.size := (own3.lt _ rfl).2
                have hB3w : u ≤ w3.heap.size := by omega
                have hNne : u + 1 < w3.heap.size := N3.lt
                clear hx1 hrowB ho3 N3 M3 own3
                go_upto_region 11 with (at_builtin; go_loud (refine wpList_append_own _ rfl _ _ 22 rfl w3.heap.size 3 i0 _ 1 8 Try.underlying22 hi0 hz0 hz1 hz2 rfl (by decide) _ _ _ rfl (World.ownsRow_made w3 #[] 0 (Nat.le_refl _) (Nat.zero_le _) rfl) ⟨G, 0, none⟩ s.pockets.length s.pockets.length (intCells (leadN s k)) rfl E.out.2.2.2.2.2 E.out.1 E.out.2.1 E.out.2.2.1 E.out.2.2.2.1 E.out.2.2.2.2.1 ?_); go_loud (intro v7 w7 hown7 hg7 _; obtain ⟨A7, c7, rfl, _, _, _⟩ := own_form hown7; have N7 := (HN3.out.1.alloc (.cells #[] 3)).grown hg7 (fun e => by have e2 : u + 1 = w3.heap.size := Option.some.inj e; omega); have n0 := N7.cell 0; have n2 := N7.fz 0; have n3 := N7.fz 1; have n4 := N7.cell 1; have nl := N7.lt; simp at n0 n4))
                have hz1 : ((manyN s k + 1 : Nat) : Int) = (manyN s k : Int) + 1 := by omega

                have hown7' : w7.ownsRow w3.heap.size 3 1 (.slice A7 (leadN s k).length c7) (leadN s k).length (intCells (leadN s k)) := by
                  rw [hle]
                  simpa using hown7
                have hne7 : some G ≠ (Value.slice (some ⟨w3.heap.size, 0, none⟩) 0 0).ownBlock := fun e => by
                  have e2 : G = w3.heap.size := Option.some.inj e
                  omega
                have hb3w := hB3w
                have M8 := ((((HN3.out.2.1.alloc (.cells #[] 3)).grown hg7 (fun e => by have e2 : u = w3.heap.size := Option.some.inj e; omega)).far (p := ⟨u + 1, 1, none⟩) (by simp) (.slice A7 s.pockets.length c7)).far (p := ⟨u + 1, 0, none⟩) (by simp) (.int .i64 ((manyN s k : Int) + 1)))
                have X8 := ((((X3.alloc (.cells #[] 3)).grown hg7 (fun e => by have e2 : w.heap.size = w3.heap.size := Option.some.inj e; omega)).far (p := ⟨u + 1, 1, none⟩) (by simp; omega) (.slice A7 s.pockets.length c7)).far (p := ⟨u + 1, 0, none⟩) (by simp; omega) (.int .i64 ((manyN s k : Int) + 1)))
                have own8 := own_far (a := ⟨u + 1, 0, none⟩) (own_far (a := ⟨u + 1, 1, none⟩) ((HN3.out.2.2.1.alloc (.cells #[] 3)).kept hg7 (.inr hne7)) (fun e => by have e2 : G = u + 1 := Option.some.inj e; omega) (.slice A7 s.pockets.length c7)) (fun e => by have e2 : G = u + 1 := Option.some.inj e; omega) (.int .i64 ((manyN s k : Int) + 1))
                have ho8 := own_base (base' := G + 1) (own_far (a := ⟨u + 1, 0, none⟩) (own_far (a := ⟨u + 1, 1, none⟩) hown7' (fun e => by have h5 := (hown7'.lt _ e).1; simp only at h5; omega) (.slice A7 s.pockets.length c7)) (fun e => by have h5 := (hown7'.lt _ e).1; simp only at h5; omega) (.int .i64 ((manyN s k : Int) + 1))) (by omega)
                have N8 : Bk ((w7.setCell ⟨u + 1, 1, none⟩ (.slice A7 s.pockets.length c7)).setCell ⟨u + 1, 0, none⟩ (.int .i64 ((manyN s k : Int) + 1))) (u + 1) 88 #[.int .i64 ((manyN s k + 1 : Nat) : Int), .slice A7 (leadN s k).length c7] := by
                  rw [hle, hz1]
                  exact (N7.put 1 (.slice A7 s.pockets.length c7)).put 0 (.int .i64 ((manyN s k : Int) + 1))
                have hB8 : Below u w4 ((w7.setCell ⟨u + 1, 1, none⟩ (.slice A7 s.pockets.length c7)).setCell ⟨u + 1, 0, none⟩ (.int .i64 ((manyN s k : Int) + 1))) := (((HN3.out.2.2.2.alloc hb3w (.cells #[] 3)).grown hg7 (by simp; omega) (fun r e => by have e2 : w3.heap.size = r := Option.some.inj e; omega)).setCell (p := ⟨u + 1, 1, none⟩) (by simp) _).setCell (p := ⟨u + 1, 0, none⟩) (by simp) _
                clear HN3 N7 n0 n2 n3 n4 hg7 hown7 hown7' X3 E nl
                generalize (w7.setCell ⟨u + 1, 1, none⟩ (.slice A7 s.pockets.length c7)).setCell ⟨u + 1, 0, none⟩ (.int .i64 ((manyN s k : Int) + 1)) = w8 at *
                obtain ⟨x0, x1, x2, x3, x4, x5, x6, x7⟩ := stn_cell0 X8
                have hzW : u ≤ w8.heap.size := by have := hB8.size; omega
                have hGW : G < w8.heap.size := (own8.lt _ rfl).2
                go_wp2_with fail
                refine (HFo.out w8 k s.pockets.length hB8 hlt own8).mono ?_
                rintro e w9 ⟨rfl, ho9, hg9⟩
                have M9 := M8.grown hg9 (by simp; omega)
                have N9 := N8.grown hg9 (by simp; omega)
                have hb9 := ho8.kept hg9 (.inr (fun e => by have h5 := (ho8.lt _ e).1; omega))
                have hB9 := hB8.grown hg9 hzW (fun r e => by injection e with e; omega)
                have hz9 := hg9.size
                clear x0 x1 x2 x3 x4 x5 x6 x7
                go_wp2_with fail
                go_roundw
                case rel => exact ⟨k + 1, by omega, rfl, fun h => by rw [follL, if_pos h] at ho9; exact ho9, M9, ⟨_, _, by rw [hmany.out, hbest.out]; exact N9, by rw [hbest.out]; exact hb9⟩, hB9, by omega⟩
                case measure =>
                  have r1 : rankAt (mosts s) G wr = k := rankAt_own (c := s.pockets.length) hlt (by rw [hml]; exact hown')
                  rw [r1]
                  by_cases h2 : k + 1 < prodM (mosts s)
                  · rw [follL, if_pos h2] at ho9
                    rw [decide_eq_true h2]
                    simp only
                    have r2 : rankAt (mosts s) G w9 = k + 1 := rankAt_own (c := s.pockets.length) h2 (by rw [hml]; exact ho9)
                    rw [r2]
                    omega
                  · rw [decide_eq_false h2]
                    simp only
                    omega
              · have hm1 : Hid (manyN s (k + 1) = manyN s k + 1) := by
                  refine Lib.hid ?_
                  simp only [manyN, hsb, if_true]
                have hm2 : Hid (bestL s (k + 1) = bestL s k) := by
                  refine Lib.hid ?_
                  simp only [bestL, hsb, if_true]
                  rw [if_neg]
                  intro h
                  rcases h with h | h
                  · exact hmz h
                  · rw [HLB.out.2.1, HLB.out.2.2] at h; exact hlo h
                have n0 := N3.cell 0
                have n2 := N3.fz 0
                have nl := N3.lt
                simp at n0
                have hGl3 : G < w3.heap.size := (own3.lt _ rfl).2
                have hz1 : ((manyN s k + 1 : Nat) : Int) = (manyN s k : Int) + 1 := by omega
                have X8 := X3.far (p := ⟨u + 1, 0, none⟩) (by simp; omega) (.int .i64 ((manyN s k : Int) + 1))
                have M8 := M3.far (p := ⟨u + 1, 0, none⟩) (by simp) (.int .i64 ((manyN s k : Int) + 1))
                have own8 := own_far (a := ⟨u + 1, 0, none⟩) own3 (fun e => by have e2 : G = u + 1 := Option.some.inj e; omega) (.int .i64 ((manyN s k : Int) + 1))
                have ho8 := own_far (a := ⟨u + 1, 0, none⟩) ho3 (fun e => by have h5 := (ho3.lt _ e).1; simp only at h5; omega) (.int .i64 ((manyN s k : Int) + 1))
                have N8 : Bk (w3.setCell ⟨u + 1, 0, none⟩ (.int .i64 ((manyN s k : Int) + 1))) (u + 1) 88 #[.int .i64 ((manyN s k + 1 : Nat) : Int), .slice A (bestL s k).length c] := by
                  rw [hz1]
                  exact N3.put 0 (.int .i64 ((manyN s k : Int) + 1))
                have hB8 := hB3.setCell (p := ⟨u + 1, 0, none⟩) (by simp) (.int .i64 ((manyN s k : Int) + 1))
                clear M3 X3 own3 ho3 hB3
                go_upto_region 11 with fail
                clear N3 n0 n2 nl
                generalize w3.setCell ⟨u + 1, 0, none⟩ (.int .i64 ((manyN s k : Int) + 1)) = w8 at *
                obtain ⟨x0, x1, x2, x3, x4, x5, x6, x7⟩ := stn_cell0 X8
                have hzW : u ≤ w8.heap.size := by have := hB8.size; omega
                have hGW : G < w8.heap.size := (own8.lt _ rfl).2
                go_wp2_with fail
                refine (HFo.out w8 k s.pockets.length hB8 hlt own8).mono ?_
                rintro e w9 ⟨rfl, ho9, hg9⟩
                have M9 := M8.grown hg9 (by simp; omega)
                have N9 := N8.grown hg9 (by simp; omega)
                have hb9 := ho8.kept hg9 (.inr (fun e => by have h5 := (ho8.lt _ e).1; omega))
                have hB9 := hB8.grown hg9 hzW (fun r e => by injection e with e; omega)
                have hz9 := hg9.size
                clear x0 x1 x2 x3 x4 x5 x6 x7
                go_wp2_with fail
                go_roundw
                case rel => exact ⟨k + 1, by omega, rfl, fun h => by rw [follL, if_pos h] at ho9; exact ho9, M9, ⟨_, _, by rw [hm1.out, hm2.out]; exact N9, by rw [hm2.out]; exact hb9⟩, hB9, by omega⟩
                case measure =>
                  have r1 : rankAt (mosts s) G wr = k := rankAt_own (c := s.pockets.length) hlt (by rw [hml]; exact hown')
                  rw [r1]
                  by_cases h2 : k + 1 < prodM (mosts s)
                  · rw [follL, if_pos h2] at ho9
                    rw [decide_eq_true h2]
                    simp only
                    have r2 : rankAt (mosts s) G w9 = k + 1 := rankAt_own (c := s.pockets.length) h2 (by rw [hml]; exact ho9)
                    rw [r2]
                    omega
                  · rw [decide_eq_false h2]
                    simp only
                    omega
        · obtain rfl : k = prodM (mosts s) := by omega
          rw [decide_eq_false hlt]
          have R := R4.below hBr hu2
          have r0 := R.cell 0
          have r1 := R.cell 1
          have r2 := R.fz 0
          have r3 := R.fz 1
          have rl := R.lt
          have v0 := N.cell 0
          have v1 := N.cell 1
          simp at r0 r1 v0 v1
          have hBw := hB4.trans (hBr.mono (by have := hB4.size; omega))
          go_wp2_with fail
          refine bodyPost_ret (v := .tuple #[.agg #[.int .i64 (manyN s (prodM (mosts s)) : Nat), .slice A (bestL s (prodM (mosts s))).length c], .int .i64 0]) (by simp [results, Try.results66, go_sem, r0, r1]) rfl ⟨.slice A (bestL s (prodM (mosts s))).length c, by first | (rw [HR.out]; done) | (rw [HR.out]; rfl), ?_, ?_⟩
          · rw [HR.out]
            exact own_far (own_far (own_base ho (by have := hB4.size; omega)) (fun e => by have h5 := (ho.lt _ e).1; simp only at h5; have := hB4.size; omega) _) (fun e => by have h5 := (ho.lt _ e).1; simp only at h5; have := hB4.size; omega) _
          · repeat (first | exact hBw | refine Below.setCell ?_ (by simp <;> omega) _)
    · have hpm : 200000 < min (prodM (mosts s) : Int) 200001 := by omega
      have HR := Lib.hid (show lookR s = (0, [], 2) by simp [lookR, hok, hp])
      go_wp2_with fail
      refine bodyPost_ret (v := .tuple #[.agg #[.int .i64 0, .slice none 0 0], .int .i64 2]) (by simp [results, Try.results66, go_sem, r0, r1]) rfl ⟨.slice none 0 0, by first | (rw [HR.out]; done) | (rw [HR.out]; rfl), by rw [HR.out]; exact World.ownsRow_nil _ _ _ _, ?_⟩
      repeat (first | exact hB2 | refine Below.setCell ?_ (by simp <;> omega) _)
  · have hok' : s.ok = false := by simpa using hok
    have HR := Lib.hid (show lookR s = (0, [], 60) by simp [lookR, hok'])
    rw [show checkE s = 60 by simp [checkE, hok']]
    go_wp2_with fail
    refine bodyPost_ret (v := .tuple #[.agg #[.int .i64 0, .slice none 0 0], .int .i64 60]) (by simp [results, Try.results66, go_sem, r0, r1]) rfl ⟨.slice none 0 0, by first | (rw [HR.out]; done) | (rw [HR.out]; rfl), by rw [HR.out]; exact World.ownsRow_nil _ _ _ _, ?_⟩
    repeat (first | exact hB1 | refine Below.setCell ?_ (by simp <;> omega) _)

end Go.Proofs.Ythmngnfdfelkeaa
