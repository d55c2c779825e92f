/-
  What is proved: the contract of truth.CheckTree.
-/
import Derived.Test.YthmngnfdfelkeaaTRightMg
import Derived.Test.YthmngnfdfelkeaaMg35
import Derived.Test.YthmngnfdfelkeaaTCtFMg
namespace Go.Proofs.Ythmngnfdfelkeaa
open Go.RowKit
attribute [local go_sem ↓] max_int min_int

set_option maxRecDepth 100000 in
set_option maxHeartbeats 8000000 in
theorem ctT_any (s : Stn) (z : Loc) (sum : Int) (q : Nat) (t : Tr) (w : World) (hs : StAt w s z) (ht : TrAt w q t) (hsz : sizeT t ≤ 200000) :
    Calls Try.prog 57 #[s.val z, .int .i64 sum, t.val] w fun e w' => e = .returned (pairV (ctR s sum t)) ∧ Below w.heap.size w w' := by
  have HO : Hid (∀ W, StAt W s z → Calls Try.prog 71 #[.agg (s.cells z)] W (OpenPost s z W)) := fun W h => open_any s z W h
  have HNN : Hid (∀ W, Below w.heap.size w W → Calls Try.prog 58 #[t.val] W fun e w' => e = .returned (.int .i64 (sizeT t)) ∧ Below W.heap.size W w') := fun W h => nodesT_any q t W (ht.keep h) hsz
  have HRT : Hid (s.ok = true → ∀ (g J : Nat) (w0 W : World), StAt w0 s z → Bk w0 g 98 (s.cells z ++ runM s) → w0.heap.size ≤ J → TrAt W J t → Below w0.heap.size w0 W → Bk W J 142 (judgeA g sum 0) →
      Calls Try.prog 105 #[.pointer (some ⟨J, 0, none⟩), .agg (boxA lowZ (highK s s.pockets.length)), t.val] W (RightPost g J sum 0 (checkF s sum (sizeT t) t lowZ (highK s s.pockets.length)) (sizeT t) W)) := fun hok g J w0 W h1 h2 h3 h4 h5 h6 =>
    right_any g J s z sum hok w0 h1 h2 h3 (sizeT t) t (Nat.le_refl _) lowZ _ 0 W (box_whole hok) h4 h5 h6 (Int.le_refl _) (by omega)
  have HW : Hid (s.ok = true → ∀ (g : Nat) (W : World), StAt W s z → Bk W g 98 (s.cells z ++ runM s) → Calls Try.prog 74 #[.pointer (some ⟨g, 0, none⟩)] W fun e w' => e = .returned (.agg (boxA lowZ (highK s s.pockets.length))) ∧ Below W.heap.size W w') := fun hok g W h1 h2 => whole_any g s z _ W h2 h1 hok
  have hct : ctR s sum t = if s.ok then match checkF s sum (sizeT t) t lowZ (highK s s.pockets.length) with
    | none => ((63, 0) : Int × Int)
    | some m => ((0, m) : Int × Int) else ((60, 0) : Int × Int) := by
    unfold ctR
    split
    · rw [if_neg (by omega)]
      generalize checkF s sum (sizeT t) t lowZ (highK s s.pockets.length) = x
      cases x <;> rfl
    · rfl
  have HTA := Lib.hid (And.intro ht hs)
  have HCT := Lib.hid hct
  clear hct ht
  generalize checkF s sum (sizeT t) t lowZ (highK s s.pockets.length) = cf at *
  generalize hbx : boxA lowZ (highK s s.pockets.length) = bx at *
  obtain ⟨l0, l1, l2, l3, l4, l5, l6, l7, h0, h1, h2, h3, h4, h5, h6, h7, hbe⟩ : ∃ l0 l1 l2 l3 l4 l5 l6 l7 h0 h1 h2 h3 h4 h5 h6 h7 : Int, bx = #[.int .i64 l0, .int .i64 l1, .int .i64 l2, .int .i64 l3, .int .i64 l4, .int .i64 l5, .int .i64 l6, .int .i64 l7, .int .i64 h0, .int .i64 h1, .int .i64 h2, .int .i64 h3, .int .i64 h4, .int .i64 h5, .int .i64 h6, .int .i64 h7] := by
    obtain ⟨h0, h1, h2, h3, h4, h5, h6, h7, he⟩ := len8 (highK_len s s.pockets.length)
    exact ⟨0, 0, 0, 0, 0, 0, 0, 0, h0, h1, h2, h3, h4, h5, h6, h7, by rw [← hbx, he]; rfl⟩
  subst hbe
  clear hbx
  have HTR := Lib.hid (fun (W : World) (q' : Nat) (h : Below w.heap.size w W) (hq : W.heap.size ≤ q') => (HTA.out.1.keep h).other hq)
  obtain ⟨k, p, a, ⟨wx, wy⟩, A, c, kids⟩ := t
  generalize hS : sizeT (.mk k p a (wx, wy) A c kids) = S at *
  generalize ctR s sum (.mk k p a (wx, wy) A c kids) = ct at *
  replace HNN : Hid (∀ W, Below w.heap.size w W → Calls Try.prog 58 #[.agg #[.int .i64 k, .int .i64 p, .int .i64 a, .int .i64 wx, .int .i64 wy, .slice A kids.length c]] W fun e w' => e = .returned (.int .i64 S) ∧ Below W.heap.size W w') := HNN
  replace HRT : Hid (s.ok = true → ∀ (g J : Nat) (w0 W : World), StAt w0 s z → Bk w0 g 98 (s.cells z ++ runM s) → w0.heap.size ≤ J → TrAt W J (.mk k p a (wx, wy) A c kids) → Below w0.heap.size w0 W → Bk W J 142 (judgeA g sum 0) →
      Calls Try.prog 105 #[.pointer (some ⟨J, 0, none⟩), .agg #[.int .i64 l0, .int .i64 l1, .int .i64 l2, .int .i64 l3, .int .i64 l4, .int .i64 l5, .int .i64 l6, .int .i64 l7, .int .i64 h0, .int .i64 h1, .int .i64 h2, .int .i64 h3, .int .i64 h4, .int .i64 h5, .int .i64 h6, .int .i64 h7], .agg #[.int .i64 k, .int .i64 p, .int .i64 a, .int .i64 wx, .int .i64 wy, .slice A kids.length c]] W (RightPost g J sum 0 cf S W)) := HRT
  have X0 : Bk ((w.alloc (.cells (s.cells z) 28)).alloc (.cells #[.int .i64 k, .int .i64 p, .int .i64 a, .int .i64 wx, .int .i64 wy, .slice A kids.length c] 49)) w.heap.size 28 (s.cells z) := (bk_last rfl).alloc _
  have Y0 : Bk ((w.alloc (.cells (s.cells z) 28)).alloc (.cells #[.int .i64 k, .int .i64 p, .int .i64 a, .int .i64 wx, .int .i64 wy, .slice A kids.length c] 49)) (w.heap.size + 1) 49 #[.int .i64 k, .int .i64 p, .int .i64 a, .int .i64 wx, .int .i64 wy, .slice A kids.length c] := bk_last (by simp)
  have hB : Below w.heap.size w ((w.alloc (.cells (s.cells z) 28)).alloc (.cells #[.int .i64 k, .int .i64 p, .int .i64 a, .int .i64 wx, .int .i64 wy, .slice A kids.length c] 49)) := ((Below.refl _ _).alloc (Nat.le_refl _) _).alloc (by simp) _
  have hSI : ¬ (200000 : Int) < S := by omega
  have HS := Lib.hid hsz
  clear hS hsz
  unfold Stn.cells at HO X0 Y0 hB
  show Calls Try.prog 57 #[s.val z, .int .i64 sum, .agg #[.int .i64 k, .int .i64 p, .int .i64 a, .int .i64 wx, .int .i64 wy, .slice A kids.length c]] w _
  unfold Stn.val Stn.cells pairV
  go_enter Try.func57, Try.ntmps57
  go_wp2_with fail
  generalize (w.alloc (.cells _ 28)).alloc (.cells _ 49) = V at *
  refine (HO.out _ (hs.below hB)).mono ?_
  rintro e w1 ⟨hb1, h⟩
  have hB1 := hB.trans (hb1.mono hB.size)
  have Y1 := Y0.keep hb1
  clear X0 Y0 hB HO hb1
  have y0 := Y1.cell 0
  have y1 := Y1.cell 1
  have y2 := Y1.cell 2
  have y3 := Y1.cell 3
  have y4 := Y1.cell 4
  have y5 := Y1.cell 5
  simp at y0 y1 y2 y3 y4 y5
  rcases h with ⟨hok, rfl⟩ | ⟨hok, g, rfl, hg, R⟩
  · simp only [hok, Bool.false_eq_true, if_false] at HCT
    clear hok
    go_wp2_with fail
    go_ret2
    exact ⟨by rw [HCT.out]; rfl, hB1⟩
  · simp only [hok, if_true] at HCT
    have HRT2 := Lib.hid (HRT.out hok g)
    have HW2 := Lib.hid (HW.out hok g)
    clear hok HRT HW
    have HR := Lib.hid (show Bk w1 g 98 (s.cells z ++ runM s) from R)
    clear R
    go_wp2_with fail
    refine (HNN.out _ hB1).mono ?_
    rintro e w2 ⟨rfl, hb2⟩
    have hB2 := hB1.trans (hb2.mono hB1.size)
    replace Y1 := Y1.keep hb2
    have HR2 := Lib.hid (HR.out.keep hb2)
    clear hB1 hb2 HNN y0 y1 y2 y3 y4 y5 HR
    have J3 : Bk (w2.alloc (.cells #[.pointer (some ⟨g, 0, none⟩), .int .i64 sum, .int .i64 0] 142)) w2.heap.size 142 #[.pointer (some ⟨g, 0, none⟩), .int .i64 sum, .int .i64 0] := bk_last rfl
    have hb3 : Below w2.heap.size w2 (w2.alloc (.cells #[.pointer (some ⟨g, 0, none⟩), .int .i64 sum, .int .i64 0] 142)) := (Below.refl _ _).alloc (Nat.le_refl _) _
    go_upto_region 7 with fail
    generalize w2.alloc (.cells #[.pointer (some ⟨g, 0, none⟩), .int .i64 sum, .int .i64 0] 142) = w3 at *
    have Y3 := Y1.keep hb3
    have HR3 := Lib.hid (HR2.out.keep hb3)
    have hB3 := hB2.trans (hb3.mono hB2.size)
    have HWx : Hid (∀ x : Ext w3, Calls Try.prog 74 #[.pointer (some ⟨g, 0, none⟩)] x.w fun e w' => e = .returned (.agg #[.int .i64 l0, .int .i64 l1, .int .i64 l2, .int .i64 l3, .int .i64 l4, .int .i64 l5, .int .i64 l6, .int .i64 l7, .int .i64 h0, .int .i64 h1, .int .i64 h2, .int .i64 h3, .int .i64 h4, .int .i64 h5, .int .i64 h6, .int .i64 h7]) ∧ Below x.w.heap.size x.w w') := fun x => HW2.out x.w ((hs.below hB3).below x.bel) (HR3.out.keep x.bel)
    have y0 := Y3.cell 0
    have y1 := Y3.cell 1
    have y2 := Y3.cell 2
    have y3 := Y3.cell 3
    have y4 := Y3.cell 4
    have y5 := Y3.cell 5
    simp at y0 y1 y2 y3 y4 y5
    replace y0 := fun x : Ext w3 => keepc x.bel y0
    replace y1 := fun x : Ext w3 => keepc x.bel y1
    replace y2 := fun x : Ext w3 => keepc x.bel y2
    replace y3 := fun x : Ext w3 => keepc x.bel y3
    replace y4 := fun x : Ext w3 => keepc x.bel y4
    replace y5 := fun x : Ext w3 => keepc x.bel y5
    refine wp_region_extmix 4 (by kernel_rfl) (by kernel_rfl) (fun _ _ d _ _ h => by cases d <;> exact h) ?_
    simp only [List.take_succ_cons, List.take_zero, List.drop_succ_cons, List.drop_zero]
    repeat (go_big_quiet_step ((go_at_call 74; exact ext_of (HWx.out _))))
    refine wpQuiet_nil ?_
    rintro _ ⟨y, rfl⟩
    clear y0 y1 y2 y3 y4 y5 HWx
    have hb4 := y.bel
    generalize y.w = w4 at hb4 ⊢
    have hb24 := hb3.trans (hb4.mono hb3.size)
    have HX := Lib.hid (HRT2.out w2.heap.size w2 w4 (hs.below hB2) HR2.out (Nat.le_refl _) ((HTR.out w2 w2.heap.size hB2 (Nat.le_refl _)).keep hb24) hb24 (J3.keep hb4))
    have HBB := Lib.hid (And.intro hB2 hb24)
    clear HRT2 HW2 HR2 HR3 HTR hB2 hB3 hb3 hb4 hb24 J3 Y1 Y3 hs
    generalize hj : w2.heap.size = J at *
    cases cf with
    | none =>
      simp only at HCT
      go_wp2_with (go_at_call 105; refine (HX.out).mono ?_; rintro e w5 ⟨rfl, hg5, L', hj5, hm, hl1, hl2⟩)
      have hB5 : Below w.heap.size w w5 := by
        obtain ⟨a1, a2⟩ := HBB.out
        have hz := a1.size
        exact (a1.trans (a2.mono (by omega))).grown hg5 (by have := a2.size; omega) (fun r e => by have := Option.some.inj e; omega)
      go_ret2
      exact ⟨by rw [HCT.out]; rfl, hB5⟩
    | some m =>
      simp only at HCT
      go_upto_region 9 with (go_at_call 105; refine (HX.out).mono ?_; rintro e w5 ⟨rfl, hg5, L', hj5, hm, hl1, hl2⟩)
      have hB5 : Below w.heap.size w w5 := by
        obtain ⟨a1, a2⟩ := HBB.out
        have hz := a1.size
        exact (a1.trans (a2.mono (by omega))).grown hg5 (by have := a2.size; omega) (fun r e => by have := Option.some.inj e; omega)
      have e2 := hm m rfl
      rw [Int.zero_add] at e2
      subst e2
      unfold judgeA at hj5
      have j2 := hj5.cell 2
      simp at j2
      clear HX HBB hg5 hl1 hl2 hj hm hj5
      have y2 := fun x : Ext w5 => keepc x.bel j2
      clear j2
      refine wp_region_ext (by kernel_rfl) (by kernel_rfl) ?_
      repeat (go_big_quiet_step (fail))
      refine wpQuiet_nil ?_
      rintro _ ⟨y, rfl⟩
      have hb6 := y.bel
      have hB6 := hB5.trans (hb6.mono hB5.size)
      generalize y.w = w6 at hB6 ⊢
      go_wp2_with fail
      go_ret2
      exact ⟨by rw [HCT.out]; rfl, hB6⟩

end Go.Proofs.Ythmngnfdfelkeaa
