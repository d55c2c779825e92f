/-
  What is proved: the contract of truth.Prove.
-/
import Derived.Test.YthmngnfdfelkeaaTGrowMg
import Derived.Test.YthmngnfdfelkeaaTTargetMg
namespace Go.Proofs.Ythmngnfdfelkeaa
open Go.RowKit
attribute [local go_sem ↓] max_int min_int

theorem below6 {w w' : World} {b : Nat} {v0 v1 v2 v3 v4 v5 : Value} (h : Below w.heap.size w w') (hb : w.heap.size ≤ b) : Below w.heap.size w ((((((w'.setCell ⟨b, 0, none⟩ v0).setCell ⟨b, 1, none⟩ v1).setCell ⟨b, 2, none⟩ v2).setCell ⟨b, 3, none⟩ v3).setCell ⟨b, 4, none⟩ v4).setCell ⟨b, 5, none⟩ v5) :=
  (((((h.setCell (p := ⟨b, 0, none⟩) hb v0).setCell (p := ⟨b, 1, none⟩) hb v1).setCell (p := ⟨b, 2, none⟩) hb v2).setCell (p := ⟨b, 3, none⟩) hb v3).setCell (p := ⟨b, 4, none⟩) hb v4).setCell (p := ⟨b, 5, none⟩) hb v5
theorem drew_cell (W : World) (p : Addr) : W.drew.cell? p = W.cell? p := rfl
theorem cell6 {w' : World} {b k o : Nat} {v0 v1 v2 v3 v4 v5 x : Value} (hb : k ≠ b) (h : w'.cell? ⟨k, o, none⟩ = some x) : ((((((w'.setCell ⟨b, 0, none⟩ v0).setCell ⟨b, 1, none⟩ v1).setCell ⟨b, 2, none⟩ v2).setCell ⟨b, 3, none⟩ v3).setCell ⟨b, 4, none⟩ v4).setCell ⟨b, 5, none⟩ v5).drew.cell? ⟨k, o, none⟩ = some x :=
  (drew_cell _ _).trans ((World.cell?_of_block (other6 hb)).trans h)
theorem Bk.keepB {w w' : World} {g : Nat} {t : TypeId} {cs : Array Value} (h : Bk w g t cs) (hb : Below w.heap.size w w') : Bk w' g t cs := h.keep hb

/-- What Prove gives. -/
def ProvePost (s : Stn) (w : World) (e : Ending) (w' : World) : Prop := Below w.heap.size w w' ∧
  ((s.ok = false ∧ e = .returned (.tuple #[.agg #[.int .i64 0, .int .i64 0, .int .i64 0, .int .i64 0, .int .i64 0, .slice none 0 0], .int .i64 0, .int .i64 60])) ∨
   (s.ok = true ∧ ¬ prodM (mosts s) ≤ 200000 ∧ e = .returned (.tuple #[.agg #[.int .i64 0, .int .i64 0, .int .i64 0, .int .i64 0, .int .i64 0, .slice none 0 0], .int .i64 0, .int .i64 2])) ∨
   (s.ok = true ∧ prodM (mosts s) ≤ 200000 ∧ 4096 < prodM (mosts s) ∧ e = .returned (.tuple #[.agg #[.int .i64 0, .int .i64 0, .int .i64 0, .int .i64 0, .int .i64 0, .slice none 0 0], .int .i64 0, .int .i64 2])) ∨
   (s.ok = true ∧ prodM (mosts s) ≤ 200000 ∧ ∃ (t : Tr) (q : Nat), e = .returned (.tuple #[t.val, .int .i64 (targetV s), .int .i64 0]) ∧ TrAt w' q t ∧ sizeT t ≤ 200000 ∧ ∃ m, checkF s (targetV s) (sizeT t) t lowZ (highK s s.pockets.length) = some m))

set_option maxRecDepth 1000000 in
set_option maxHeartbeats 16000000 in
theorem prove_any (s : Stn) (z : Loc) (w : World) (hs : StAt w s z) : Calls Try.prog 53 #[s.val z] w (ProvePost s w) := by
  have HO : Hid (∀ W, StAt W s z → Calls Try.prog 64 #[.agg (s.cells z)] W (PoorPost s z W)) := fun W h => poor_any s z W h
  have n4 := hs.n4
  obtain ⟨U, hU⟩ : ∃ U, (w.alloc (.cells (s.cells z) 28)).alloc (.cells #[.int .i64 0, .int .i64 0, .int .i64 0, .int .i64 0, .int .i64 0, .slice none 0 0] 49) = U := ⟨_, rfl⟩
  have X : Bk U w.heap.size 28 (s.cells z) := by rw [← hU]; exact (bk_last rfl).alloc _
  have R : Bk U (w.heap.size + 1) 49 #[.int .i64 0, .int .i64 0, .int .i64 0, .int .i64 0, .int .i64 0, .slice none 0 0] := by rw [← hU]; exact bk_last (by simp)
  have hB : Below w.heap.size w U := by rw [← hU]; exact ((Below.refl _ _).alloc (Nat.le_refl _) _).alloc (by simp) _
  obtain ⟨x0, x1, x2, x3, x4, x5, x6, x7⟩ := stn_cell0 X
  have hs1 := hs.below hB
  unfold Stn.cells at HO hU
  have HU := Lib.hid hU
  clear hU X hs
  unfold Stn.val Stn.cells
  go_enter Try.func53, Try.ntmps53
  go_upto_region 1 with fail
  rw [HU.out]
  clear HU
  go_wp2_with fail
  refine (HO.out _ hs1).mono ?_
  rintro e w1 ⟨hb1, h⟩
  have hB1 := hB.trans (hb1.mono hB.size)
  have HR1 := Lib.hid (R.keep hb1)
  have hs2 := hs1.below hb1
  clear x0 x1 x2 x3 x4 x5 x6 x7 R hs1 hb1 hB HO
  rcases h with ⟨h1, rfl⟩ | ⟨h1, h2, rfl⟩ | ⟨h1, h2, g, rfl, hg, Rg⟩
  · have r0 := HR1.out.cell 0
    have r1 := HR1.out.cell 1
    have r2 := HR1.out.cell 2
    have r3 := HR1.out.cell 3
    have r4 := HR1.out.cell 4
    have r5 := HR1.out.cell 5
    have rf0 := HR1.out.fz 0
    have rf1 := HR1.out.fz 1
    have rf2 := HR1.out.fz 2
    have rf3 := HR1.out.fz 3
    have rf4 := HR1.out.fz 4
    have rf5 := HR1.out.fz 5
    have rl := HR1.out.lt
    simp at r0 r1 r2 r3 r4 r5
    go_wp2_with fail
    refine bodyPost_ret (v := .tuple #[.agg #[.int .i64 0, .int .i64 0, .int .i64 0, .int .i64 0, .int .i64 0, .slice none 0 0], .int .i64 0, .int .i64 60]) (by simp [results, Try.results53, go_sem, r0, r1, r2, r3, r4, r5]) rfl ?_
    exact ⟨below6 hB1 (by omega), Or.inl ⟨h1, rfl⟩⟩
  · have hN : ¬ prodM (mosts s) ≤ 200000 := fun h => by have := (few_leads h1).2 h; omega
    have HN := Lib.hid hN
    clear h2 hN
    have r0 := HR1.out.cell 0
    have r1 := HR1.out.cell 1
    have r2 := HR1.out.cell 2
    have r3 := HR1.out.cell 3
    have r4 := HR1.out.cell 4
    have r5 := HR1.out.cell 5
    have rf0 := HR1.out.fz 0
    have rf1 := HR1.out.fz 1
    have rf2 := HR1.out.fz 2
    have rf3 := HR1.out.fz 3
    have rf4 := HR1.out.fz 4
    have rf5 := HR1.out.fz 5
    have rl := HR1.out.lt
    simp at r0 r1 r2 r3 r4 r5
    go_wp2_with fail
    refine bodyPost_ret (v := .tuple #[.agg #[.int .i64 0, .int .i64 0, .int .i64 0, .int .i64 0, .int .i64 0, .slice none 0 0], .int .i64 0, .int .i64 2]) (by simp [results, Try.results53, go_sem, r0, r1, r2, r3, r4, r5]) rfl ?_
    exact ⟨below6 hB1 (by omega), Or.inr (Or.inl ⟨h1, HN.out, rfl⟩)⟩
  · have hp := (few_leads h1).1 h2
    have hok := h1
    have HBE := Lib.hid (fun (W : World) (h : Below w1.heap.size w1 W) => best_any g s z W (Rg.keep h) (hs2.below h) h1 hp)
    have HS1 := Lib.hid (And.intro hs2 (show Bk w1 g 98 (s.cells z ++ runM s) from Rg))
    clear h1 h2 hs2 Rg
    obtain ⟨W2, hW2⟩ : ∃ W2, w1.alloc (.cells #[.pointer (some ⟨g, 0, none⟩), .int .i64 1, .int .i64 200000] 133) = W2 := ⟨_, rfl⟩
    have P2 : Bk W2 w1.heap.size 133 #[.pointer (some ⟨g, 0, none⟩), .int .i64 1, .int .i64 200000] := by rw [← hW2]; exact bk_last rfl
    have hb2 : Below w1.heap.size w1 W2 := by rw [← hW2]; exact (Below.refl _ _).alloc (Nat.le_refl _) _
    have HW2 := Lib.hid hW2
    have HB2 := Lib.hid (HBE.out W2 hb2)
    have hsm := bestL_small hok (prodM (mosts s)) (Nat.le_refl _)
    have HTV : Hid (targetV s = if manyN s (prodM (mosts s)) = 0 then sumL (boxHi s) + 1 else sumL (bestL s (prodM (mosts s)))) := rfl
    have hg1 : g < w1.heap.size := HS1.out.2.lt
    clear hW2 HBE
    generalize manyN s (prodM (mosts s)) = M at *
    generalize bestL s (prodM (mosts s)) = l at *
    go_upto_region 5 with fail
    rw [HW2.out]
    clear HW2
    go_upto_region 6 with (go_at_call 65; refine (HB2.out).mono ?_; rintro e w3 ⟨v, rfl, ho, hb3⟩)
    obtain ⟨A1, c1, rfl, _, rl1, _⟩ := own_form ho
    have P3 := P2.keep hb3
    have hb13 := hb2.trans (hb3.mono hb2.size)
    clear P2 hb2 hb3 HB2 ho
    by_cases hM : M = 0
    · subst hM
      rw [if_pos rfl] at HTV
      clear rl1 hsm
      have hnp : ¬ (0 : Int) < ((0 : Nat) : Int) := by omega
      have hnp2 : decide (((0 : Nat) : Int) > 0) = false := rfl
      have q6 : w3.cell? ⟨g, 6, none⟩ = some (.slice z.a4 s.pockets.length z.c4) := (stn_cell (HS1.out.2.keep hb13)).2.2.2.2.2.2.1
      have hHI := boxHi_small hok
      have HHI := Lib.hid hHI
      have HSB := Lib.hid (fun n (h : n ≤ s.pockets.length) => sumHi_bound hok n h)
      clear hHI
      have HB3 := Lib.hid (And.intro hb13 P3)
      clear hb13 P3
      go_upto_region 9 with fail
      clear q6
      go_loopw [11, 44] (fun _ i wr => ∃ k : Nat, k ≤ s.pockets.length ∧ i = .int .i64 k ∧ Bk wr w1.heap.size 133 #[.pointer (some ⟨g, 0, none⟩), .int .i64 (sumF (boxHi s) k + 1), .int .i64 200000] ∧ Below w1.heap.size w1 wr) (fun _ i _ => s.pockets.length - (intOf i).toNat)
      case atStart => exact ⟨0, Nat.zero_le _, rfl, HB3.out.2, HB3.out.1⟩
      case round =>
        obtain ⟨k, hk, rfl, Pk, hbk⟩ := hrel
        by_cases hlt : k < s.pockets.length
        · have hkI : (k : Int) < s.pockets.length := by omega
          obtain ⟨b, off, hA, hb, hc⟩ := (HS1.out.1.below hbk).pockets.pk (by omega)
          obtain ⟨c0, c1, c2⟩ := hc k hlt
          have hsb := HSB.out k (by omega)
          have hsn := HSB.out (k + 1) (by omega)
          have hgd : (boxHi s).getD k 0 = (s.pockets.getD k ((0, 0), 0)).2 := by
            rw [getD_get _ _ (by rw [HHI.out.1]; exact hlt), getD_get _ _ hlt]; simp [boxHi]
          have HN := Lib.hid (show sumF (boxHi s) (k + 1) = sumF (boxHi s) k + (s.pockets.getD k ((0, 0), 0)).2 by rw [← hgd]; rfl)
          rw [HN.out] at hsn
          have h8 := HHI.out.2.1
          clear hc hgd
          generalize s.pockets.getD k ((0, 0), 0) = p at *
          generalize sumF (boxHi s) k = S at *
          obtain ⟨⟨px, py⟩, pm⟩ := p
          simp only at c0 c1 c2 HN hsn
          have hwr := IntWalk.i64_in (S + 1 + pm) (by omega)
          obtain ⟨W9, hW9⟩ : ∃ W9, wr.alloc (.cells #[.int .i64 px, .int .i64 py, .int .i64 pm] 71) = W9 := ⟨_, rfl⟩
          have Y9 : Bk W9 wr.heap.size 71 #[.int .i64 px, .int .i64 py, .int .i64 pm] := by rw [← hW9]; exact bk_last rfl
          have hb9 : Below wr.heap.size wr W9 := by rw [← hW9]; exact (Below.refl _ _).alloc (Nat.le_refl _) _
          have P9 := Pk.keep hb9
          have HW9 := Lib.hid hW9
          have hb19 := hbk.trans (hb9.mono hbk.size)
          have HB9 := Lib.hid hb19
          have y2 := Y9.cell 2
          have p1 := P9.cell 1
          simp at y2 p1
          rw [hA]
          have HK := Lib.hid hbk
          clear hA hW9 Y9 hb9 Pk hb19 hbk hsb hsn h8
          go_upto_region 11 with fail
          rw [HW9.out]
          clear HW9 c0 c1 c2
          replace y2 := fun x : Ext W9 => keepc x.bel y2
          replace p1 := fun x : Ext W9 => keepc x.bel p1
          refine wp_region_extmix 9 (by kernel_rfl) (by kernel_rfl) (fun _ _ d _ _ h => by cases d <;> exact h) ?_
          simp only [List.take_succ_cons, List.take_zero, List.drop_succ_cons, List.drop_zero]
          repeat (go_big_quiet_step (fail))
          refine wpQuiet_nil ?_
          rintro _ ⟨y, rfl⟩
          clear y2 p1
          have hb10 := y.bel
          generalize y.w = W10 at hb10 ⊢
          have P10 := P9.keep hb10
          have pc := P10.cell 1
          have pf := P10.fz 1
          have pl := P10.lt
          simp at pc
          have HP := Lib.hid (And.intro P10 (HB9.out.trans (hb10.mono HB9.out.size)))
          clear P10 P9 hb10
          go_wp2_with fail
          go_roundw
          case rel =>
            refine ⟨k + 1, by omega, by go_num, ?_, HP.out.2.setCell (p := ⟨w1.heap.size, 1, none⟩) (Nat.le_refl _) _⟩
            have h := HP.out.1.put 1 (.int .i64 (S + 1 + pm))
            rw [HN.out, show S + pm + 1 = S + 1 + pm by omega]
            exact h
          case measure => simp [intOf]; omega
        · obtain rfl : k = s.pockets.length := by omega
          have hsl : sumL (boxHi s) = sumF (boxHi s) s.pockets.length := by unfold sumL; rw [HHI.out.1]
          have P5 : Bk wr w1.heap.size 133 (proverA g (targetV s) 200000) := by rw [HTV.out, hsl]; exact Pk
          have hb5 := hbk
          clear HHI HSB HB3 HTV Pk hbk hsl hnp hnp2
          have HWH := Lib.hid (whole_any g s z (runM s) wr (HS1.out.2.keepB hb5) (HS1.out.1.below hb5) hok)
          have HGR := Lib.hid (grow_any g w1.heap.size s z (targetV s) hok w1 HS1.out.1 HS1.out.2 (Nat.le_refl _) (target_le hok) 200000 (by omega) lowZ (highK s s.pockets.length))
          generalize boxA lowZ (highK s s.pockets.length) = bx at HWH HGR
          have HB5 := Lib.hid (And.intro hb5 P5)
          have hp5 := P5.lt
          clear hb5 P5
          go_upto_region 14 with (first | (go_at_call 74; refine (HWH.out).mono ?_; rintro e w6 ⟨rfl, hb6⟩) | (go_at_call 103; refine (HGR.out _ (box_whole hok) (HB5.out.1.trans (hb6.mono HB5.out.1.size)) (HB5.out.2.keep hb6)).mono ?_; rintro e w7 ⟨xk, xp, xa, xwx, xwy, xA, xc, xks, okb, lf, rfl, hg7, hP7, hT7, hF7⟩))
          have hs6 := hb6.size
          have hs7 := hg7.size
          have hs5 := HB5.out.1.size
          have hb7 : Below w1.heap.size w1 w7 := (HB5.out.1.trans (hb6.mono hs5)).grown hg7 (by omega) (fun r e => by have := Option.some.inj e; omega)
          have X8 : Bk (w7.alloc (.cells #[.int .i64 xk, .int .i64 xp, .int .i64 xa, .int .i64 xwx, .int .i64 xwy, .slice xA xks.length xc] 49)) w7.heap.size 49 #[.int .i64 xk, .int .i64 xp, .int .i64 xa, .int .i64 xwx, .int .i64 xwy, .slice xA xks.length xc] := bk_last rfl
          have hb8 : Below w7.heap.size w7 (w7.alloc (.cells #[.int .i64 xk, .int .i64 xp, .int .i64 xa, .int .i64 xwx, .int .i64 xwy, .slice xA xks.length xc] 49)) := (Below.refl _ _).alloc (Nat.le_refl _) _
          generalize w7.alloc (.cells #[.int .i64 xk, .int .i64 xp, .int .i64 xa, .int .i64 xwx, .int .i64 xwy, .slice xA xks.length xc] 49) = w8 at *
          have P8 := hP7.keep hb8
          have hb18 := hb7.trans (hb8.mono hb7.size)
          have R8 := HR1.out.keep hb18
          have hbw := hB1.trans (hb18.mono hB1.size)
          have hs8 := hb8.size
          have hx8 := X8.lt
          have hr1 := HR1.out.lt
          generalize hqx : w7.heap.size = qx at *
          have r0 := R8.cell 0
          have r1 := R8.cell 1
          have r2 := R8.cell 2
          have r3 := R8.cell 3
          have r4 := R8.cell 4
          have r5 := R8.cell 5
          have rf0 := R8.fz 0
          have rf1 := R8.fz 1
          have rf2 := R8.fz 2
          have rf3 := R8.fz 3
          have rf4 := R8.fz 4
          have rf5 := R8.fz 5
          have rl := R8.lt
          simp at r0 r1 r2 r3 r4 r5
          cases okb
          · have hv := hF7 rfl
            rw [vol_whole hok] at hv
            have HE := Lib.hid (And.intro hbw hv)
            clear hT7 hF7 hP7 P8 X8 hb18 hb8 hb7 hg7 hv R8 hbw
            go_wp2_with fail
            refine bodyPost_ret (v := .tuple #[.agg #[.int .i64 0, .int .i64 0, .int .i64 0, .int .i64 0, .int .i64 0, .slice none 0 0], .int .i64 0, .int .i64 2]) (by simp [results, Try.results53, go_sem, r0, r1, r2, r3, r4, r5]) rfl ?_
            exact ⟨below6 HE.out.1 (by omega), Or.inr (Or.inr (Or.inl ⟨hok, hp, by have := HE.out.2; omega, rfl⟩))⟩
          · obtain ⟨t1, t2, t3, t4, t5, t6⟩ := hT7 rfl
            have HE := Lib.hid (And.intro hbw (And.intro (t1.keep (by rw [hqx]; exact hb8)) (And.intro t2 (And.intro t3 (And.intro t4 t6)))))
            have p1 := P8.cell 1
            simp [proverA] at p1
            have x0 := X8.cell 0
            have x1 := X8.cell 1
            have x2 := X8.cell 2
            have x3 := X8.cell 3
            have x4 := X8.cell 4
            have x5 := X8.cell 5
            simp at x0 x1 x2 x3 x4 x5
            clear hT7 hF7 hP7 hb18 hb8 hb7 hg7 t1 t2 t3 t4 t5 t6 hbw r0 r1 r2 r3 r4 r5 rf0 rf1 rf2 rf3 rf4 rf5 rl
            go_upto_region 16 with fail
            have r0 := R8.cell 0
            have r1 := R8.cell 1
            have r2 := R8.cell 2
            have r3 := R8.cell 3
            have r4 := R8.cell 4
            have r5 := R8.cell 5
            have rf0 := R8.fz 0
            have rf1 := R8.fz 1
            have rf2 := R8.fz 2
            have rf3 := R8.fz 3
            have rf4 := R8.fz 4
            have rf5 := R8.fz 5
            have rl := R8.lt
            simp at r0 r1 r2 r3 r4 r5
            clear X8 R8 P8
            have d0 : w8.drew.cell? ⟨qx, 0, none⟩ = some (.int .i64 xk) := x0
            have d1 : w8.drew.cell? ⟨qx, 1, none⟩ = some (.int .i64 xp) := x1
            have d2 : w8.drew.cell? ⟨qx, 2, none⟩ = some (.int .i64 xa) := x2
            have d3 : w8.drew.cell? ⟨qx, 3, none⟩ = some (.int .i64 xwx) := x3
            have d4 : w8.drew.cell? ⟨qx, 4, none⟩ = some (.int .i64 xwy) := x4
            have d5 : w8.drew.cell? ⟨qx, 5, none⟩ = some (.slice xA xks.length xc) := x5
            have d6 : w8.drew.cell? ⟨w1.heap.size, 1, none⟩ = some (.int .i64 (targetV s)) := p1
            have hqr : qx ≠ w.heap.size + 1 := by omega
            have hpr : w1.heap.size ≠ w.heap.size + 1 := by omega
            go_region_held3 (fun w' => w'.cell? ⟨qx, 0, none⟩ = some (.int .i64 xk) ∧ w'.cell? ⟨qx, 1, none⟩ = some (.int .i64 xp) ∧ w'.cell? ⟨qx, 2, none⟩ = some (.int .i64 xa) ∧ w'.cell? ⟨qx, 3, none⟩ = some (.int .i64 xwx) ∧ w'.cell? ⟨qx, 4, none⟩ = some (.int .i64 xwy) ∧ w'.cell? ⟨qx, 5, none⟩ = some (.slice xA xks.length xc) ∧ w'.cell? ⟨w1.heap.size, 1, none⟩ = some (.int .i64 (targetV s)))
              (first | with_reducible exact ⟨d0, d1, d2, d3, d4, d5, d6⟩ | with_reducible exact ⟨cell6 hqr x0, cell6 hqr x1, cell6 hqr x2, cell6 hqr x3, cell6 hqr x4, cell6 hqr x5, cell6 hpr p1⟩ | with_reducible exact ⟨x0, x1, x2, x3, x4, x5, p1⟩ | (go_split_ands; with_reducible exact ⟨‹_›, ‹_›, ‹_›, ‹_›, ‹_›, ‹_›, ‹_›⟩))
              (fail)
            go_wp2_with fail
            refine bodyPost_ret (v := .tuple #[.agg #[.int .i64 xk, .int .i64 xp, .int .i64 xa, .int .i64 xwx, .int .i64 xwy, .slice xA xks.length xc], .int .i64 (targetV s), .int .i64 0]) (by simp [results, Try.results53, go_sem, r0, r1, r2, r3, r4, r5]) rfl ?_
            obtain ⟨e1, e2, e3, e4, e5, e6⟩ := HE.out
            refine ⟨(below6 e1 (by omega)).drew, Or.inr (Or.inr (Or.inr ⟨hok, hp, .mk xk xp xa (xwx, xwy) xA xc xks, w1.heap.size, rfl, ?_, by omega, e6 _ (Nat.le_refl _)⟩))⟩
            refine TrAt.draw ?_ 1
            exact e2.move e3 (Nat.le_of_eq size6.symm) (fun b hb1 hb2 => other6 (by omega))
    · rw [if_neg hM] at HTV
      have hM1 : 0 < (M : Int) := by omega
      have hm2 : decide ((M : Int) > 0) = true := decide_eq_true hM1
      have HS := Lib.hid (total_any A1 c1 l w3 rl1 (by omega) (fun x hx => by have := hsm.2 x hx; omega))
      have hT : targetV s = sumF l l.length := HTV.out
      have P4 := P3.put 1 (.int .i64 (targetV s))
      have hb4 := hb13.setCell (p := ⟨w1.heap.size, 1, none⟩) (Nat.le_refl _) (.int .i64 (targetV s))
      have pc := P3.cell 1
      have pf := P3.fz 1
      have pl := P3.lt
      simp at pc
      rw [← hT] at HS
      clear hT HTV hsm rl1 hb13 P3
      go_upto_region 13 with (go_at_call 62; refine (HS.out).mono ?_; rintro e w' ⟨rfl, rfl⟩)
      obtain ⟨w5, hw5⟩ : ∃ w5, w3.setCell ⟨w1.heap.size, 1, none⟩ (.int .i64 (targetV s)) = w5 := ⟨_, rfl⟩
      rw [hw5] at P4 hb4 ⊢
      have P5 : Bk w5 w1.heap.size 133 (proverA g (targetV s) 200000) := P4
      have hb5 := hb4
      clear P4 hb4 pc pf pl hw5 HS hM hM1 hm2
      have HWH := Lib.hid (whole_any g s z (runM s) w5 (HS1.out.2.keepB hb5) (HS1.out.1.below hb5) hok)
      have HGR := Lib.hid (grow_any g w1.heap.size s z (targetV s) hok w1 HS1.out.1 HS1.out.2 (Nat.le_refl _) (target_le hok) 200000 (by omega) lowZ (highK s s.pockets.length))
      generalize boxA lowZ (highK s s.pockets.length) = bx at HWH HGR
      have HB5 := Lib.hid (And.intro hb5 P5)
      have hp5 := P5.lt
      clear hb5 P5
      go_upto_region 14 with (first | (go_at_call 74; refine (HWH.out).mono ?_; rintro e w6 ⟨rfl, hb6⟩) | (go_at_call 103; refine (HGR.out _ (box_whole hok) (HB5.out.1.trans (hb6.mono HB5.out.1.size)) (HB5.out.2.keep hb6)).mono ?_; rintro e w7 ⟨xk, xp, xa, xwx, xwy, xA, xc, xks, okb, lf, rfl, hg7, hP7, hT7, hF7⟩))
      have hs6 := hb6.size
      have hs7 := hg7.size
      have hs5 := HB5.out.1.size
      have hb7 : Below w1.heap.size w1 w7 := (HB5.out.1.trans (hb6.mono hs5)).grown hg7 (by omega) (fun r e => by have := Option.some.inj e; omega)
      have X8 : Bk (w7.alloc (.cells #[.int .i64 xk, .int .i64 xp, .int .i64 xa, .int .i64 xwx, .int .i64 xwy, .slice xA xks.length xc] 49)) w7.heap.size 49 #[.int .i64 xk, .int .i64 xp, .int .i64 xa, .int .i64 xwx, .int .i64 xwy, .slice xA xks.length xc] := bk_last rfl
      have hb8 : Below w7.heap.size w7 (w7.alloc (.cells #[.int .i64 xk, .int .i64 xp, .int .i64 xa, .int .i64 xwx, .int .i64 xwy, .slice xA xks.length xc] 49)) := (Below.refl _ _).alloc (Nat.le_refl _) _
      generalize w7.alloc (.cells #[.int .i64 xk, .int .i64 xp, .int .i64 xa, .int .i64 xwx, .int .i64 xwy, .slice xA xks.length xc] 49) = w8 at *
      have P8 := hP7.keep hb8
      have hb18 := hb7.trans (hb8.mono hb7.size)
      have R8 := HR1.out.keep hb18
      have hbw := hB1.trans (hb18.mono hB1.size)
      have hs8 := hb8.size
      have hx8 := X8.lt
      have hr1 := HR1.out.lt
      generalize hqx : w7.heap.size = qx at *
      have r0 := R8.cell 0
      have r1 := R8.cell 1
      have r2 := R8.cell 2
      have r3 := R8.cell 3
      have r4 := R8.cell 4
      have r5 := R8.cell 5
      have rf0 := R8.fz 0
      have rf1 := R8.fz 1
      have rf2 := R8.fz 2
      have rf3 := R8.fz 3
      have rf4 := R8.fz 4
      have rf5 := R8.fz 5
      have rl := R8.lt
      simp at r0 r1 r2 r3 r4 r5
      cases okb
      · have hv := hF7 rfl
        rw [vol_whole hok] at hv
        have HE := Lib.hid (And.intro hbw hv)
        clear hT7 hF7 hP7 P8 X8 hb18 hb8 hb7 hg7 hv R8 hbw
        go_wp2_with fail
        refine bodyPost_ret (v := .tuple #[.agg #[.int .i64 0, .int .i64 0, .int .i64 0, .int .i64 0, .int .i64 0, .slice none 0 0], .int .i64 0, .int .i64 2]) (by simp [results, Try.results53, go_sem, r0, r1, r2, r3, r4, r5]) rfl ?_
        exact ⟨below6 HE.out.1 (by omega), Or.inr (Or.inr (Or.inl ⟨hok, hp, by have := HE.out.2; omega, rfl⟩))⟩
      · obtain ⟨t1, t2, t3, t4, t5, t6⟩ := hT7 rfl
        have HE := Lib.hid (And.intro hbw (And.intro (t1.keep (by rw [hqx]; exact hb8)) (And.intro t2 (And.intro t3 (And.intro t4 t6)))))
        have p1 := P8.cell 1
        simp [proverA] at p1
        have x0 := X8.cell 0
        have x1 := X8.cell 1
        have x2 := X8.cell 2
        have x3 := X8.cell 3
        have x4 := X8.cell 4
        have x5 := X8.cell 5
        simp at x0 x1 x2 x3 x4 x5
        clear hT7 hF7 hP7 hb18 hb8 hb7 hg7 t1 t2 t3 t4 t5 t6 hbw r0 r1 r2 r3 r4 r5 rf0 rf1 rf2 rf3 rf4 rf5 rl
        go_upto_region 16 with fail
        have r0 := R8.cell 0
        have r1 := R8.cell 1
        have r2 := R8.cell 2
        have r3 := R8.cell 3
        have r4 := R8.cell 4
        have r5 := R8.cell 5
        have rf0 := R8.fz 0
        have rf1 := R8.fz 1
        have rf2 := R8.fz 2
        have rf3 := R8.fz 3
        have rf4 := R8.fz 4
        have rf5 := R8.fz 5
        have rl := R8.lt
        simp at r0 r1 r2 r3 r4 r5
        clear X8 R8 P8
        have d0 : w8.drew.cell? ⟨qx, 0, none⟩ = some (.int .i64 xk) := x0
        have d1 : w8.drew.cell? ⟨qx, 1, none⟩ = some (.int .i64 xp) := x1
        have d2 : w8.drew.cell? ⟨qx, 2, none⟩ = some (.int .i64 xa) := x2
        have d3 : w8.drew.cell? ⟨qx, 3, none⟩ = some (.int .i64 xwx) := x3
        have d4 : w8.drew.cell? ⟨qx, 4, none⟩ = some (.int .i64 xwy) := x4
        have d5 : w8.drew.cell? ⟨qx, 5, none⟩ = some (.slice xA xks.length xc) := x5
        have d6 : w8.drew.cell? ⟨w1.heap.size, 1, none⟩ = some (.int .i64 (targetV s)) := p1
        have hqr : qx ≠ w.heap.size + 1 := by omega
        have hpr : w1.heap.size ≠ w.heap.size + 1 := by omega
        go_region_held3 (fun w' => w'.cell? ⟨qx, 0, none⟩ = some (.int .i64 xk) ∧ w'.cell? ⟨qx, 1, none⟩ = some (.int .i64 xp) ∧ w'.cell? ⟨qx, 2, none⟩ = some (.int .i64 xa) ∧ w'.cell? ⟨qx, 3, none⟩ = some (.int .i64 xwx) ∧ w'.cell? ⟨qx, 4, none⟩ = some (.int .i64 xwy) ∧ w'.cell? ⟨qx, 5, none⟩ = some (.slice xA xks.length xc) ∧ w'.cell? ⟨w1.heap.size, 1, none⟩ = some (.int .i64 (targetV s)))
          (first | with_reducible exact ⟨d0, d1, d2, d3, d4, d5, d6⟩ | with_reducible exact ⟨cell6 hqr x0, cell6 hqr x1, cell6 hqr x2, cell6 hqr x3, cell6 hqr x4, cell6 hqr x5, cell6 hpr p1⟩ | with_reducible exact ⟨x0, x1, x2, x3, x4, x5, p1⟩ | (go_split_ands; with_reducible exact ⟨‹_›, ‹_›, ‹_›, ‹_›, ‹_›, ‹_›, ‹_›⟩))
          (fail)
        go_wp2_with fail
        refine bodyPost_ret (v := .tuple #[.agg #[.int .i64 xk, .int .i64 xp, .int .i64 xa, .int .i64 xwx, .int .i64 xwy, .slice xA xks.length xc], .int .i64 (targetV s), .int .i64 0]) (by simp [results, Try.results53, go_sem, r0, r1, r2, r3, r4, r5]) rfl ?_
        obtain ⟨e1, e2, e3, e4, e5, e6⟩ := HE.out
        refine ⟨(below6 e1 (by omega)).drew, Or.inr (Or.inr (Or.inr ⟨hok, hp, .mk xk xp xa (xwx, xwy) xA xc xks, w1.heap.size, rfl, ?_, by omega, e6 _ (Nat.le_refl _)⟩))⟩
        refine TrAt.draw ?_ 1
        exact e2.move e3 (Nat.le_of_eq size6.symm) (fun b hb1 hb2 => other6 (by omega))

end Go.Proofs.Ythmngnfdfelkeaa
