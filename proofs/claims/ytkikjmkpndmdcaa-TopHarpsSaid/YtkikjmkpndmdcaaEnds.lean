/-
  What is proved: the contract of ends, from one state.
-/
import Derived.Test.YtkikjmkpndmdcaaLoop
import Derived.Test.YtkikjmkpndmdcaaSmall
namespace Go.Proofs.Ytkikjmkpndmdcaa
open Go.RowKit Go.Shelf
attribute [local go_sem ↓] max_int min_int
attribute [local go_sem] Oper.semAt_some

theorem keepsO_of_below {W W' : World} (h : Below W.heap.size W W') : KeepsOthers W W' := ⟨h.size, fun k o hk _ => (h.block k (Array.getElem?_eq_some_iff.1 hk).1).trans hk⟩

def EndsP (f : Flr) (i : Nat) (w : World) (e : Ending) (w' : World) : Prop :=
  Below w.heap.size w w' ∧ ((AccS f i ∧ e = .returned (.bool true)) ∨ (¬ AccS f i ∧ e = .returned (.bool false)))

set_option maxRecDepth 100000 in
set_option maxHeartbeats 8000000 in
theorem ends_any (f : Flr) (z : FLoc) (b i Bs bl : Nat) (w : World) (hf : FlAt w b f z) (hok : f.Ok) (hi : i < f.R * f.S * f.S) (h1 : Bk w Bs 28 #[.slice (some ⟨bl, 0, none⟩) 1 1]) (h2 : Bk w bl 3 #[.int .i64 i]) :
    Calls Try.prog 46 #[.pointer (some ⟨b, 0, none⟩), .func (.func 83) #[] #[.pointer (some ⟨Bs, 0, none⟩)]] w (EndsP f i w) := by
  obtain ⟨N, hN⟩ : ∃ N, N = f.R * f.S * f.S := ⟨_, rfl⟩
  have HST := Lib.hid (fun (X : World) (h : Below w.heap.size w X) => states_any b f z X (hf.below h) hok)
  have hiN : i < N := by omega
  rw [← hN] at HST
  have hNb : N ≤ 256 := by rw [hN]; exact Nat.mul_le_mul (Nat.mul_le_mul hok.r1 hok.s1) hok.s1
  have HLP := Lib.hid (fun (X : World) (gd : Nat) (hB : Below w.heap.size w X) (hgd : w.heap.size ≤ gd) (D : Bk X gd 4 (boolCells (List.replicate N false)).toArray) => loop_any f z b w.heap.size gd N i (List.replicate N false) w X hf hok hN rfl hB hgd D (by simp) (by simp [List.getD_eq_getElem?_getD, hiN]) (fun k hk => by
    rw [List.getD_eq_getElem?_getD, List.getElem?_replicate] at hk
    split at hk <;> simp at hk) hiN)
  obtain ⟨W, hW⟩ : ∃ W, (w.alloc (.cells #[.pointer (some ⟨b, 0, none⟩)] 65)).alloc (.cells #[.bool false] 4) = W := ⟨_, rfl⟩
  have hbW : Below w.heap.size w W := by rw [← hW]; exact ((Below.refl _ _).alloc (Nat.le_refl _) _).alloc (by simp) _
  have X0 : Bk W w.heap.size 65 #[.pointer (some ⟨b, 0, none⟩)] := by rw [← hW]; exact (bk_last rfl).alloc _
  have X1 : Bk W (w.heap.size + 1) 4 #[.bool false] := by rw [← hW]; exact bk_last (by simp)
  have x0 := X0.cell 0
  simp at x0
  have HW := Lib.hid hW
  have HN := Lib.hid hN
  have hNi : (i : Int) < N := by omega
  clear hW hN hi
  obtain ⟨j0, hj0, jz0, jz1, jz2⟩ := info_parts boolInfo
  have bb2 : j0.bytes * N ≤ 281474976710656 := by rw [jz2]; omega
  have bb3 : N ≤ maxLen := by unfold maxLen; omega
  refine (callsIn_wide (n := 3)).1 ?_
  refine callsIn_of_wp_marks Try.func46 rfl trivial ?_ rfl
  simp only [Try.ntmps46, List.size_toArray, List.length_cons, List.length_nil, Nat.reduceAdd, Nat.reduceSub, Array.replicate_succ, Array.replicate_zero, List.push_toArray, List.append_toArray, List.nil_append, List.cons_append]
  refine wpIn_wide.2 ?_
  go_upto_region 1 with fail
  rw [HW.out]
  clear HW
  go_wp2_with (first | (go_at_call 40; refine (HST.out W hbW).mono ?_; rintro e w1 ⟨rfl, hb1⟩) | (at_make; refine (wpList_make_full _ rfl _ _ 104 rfl w1.heap.size 4 j0 _ 1 Try.underlying104 hj0 jz0 jz1 .i64 .i64 _ _ N rfl rfl rfl rfl bb2 bb3 (Nat.le_refl _) ?_); intro w2 hown hgr))
  rw [made_bools] at hown
  have R2 := own_full hown
  have hb1w := hbW.trans (hb1.mono hbW.size)
  have hb2 : Below w1.heap.size w1 w2 := ⟨hgr.os, hgr.tape, hgr.output, hgr.size, fun k hk => hgr.block k hk (by simp)⟩
  have hb2w := hb1w.trans (hb2.mono hb1w.size)
  have Z0 := (X0.keep hb1).keep hb2
  have Z1 := (X1.keep hb1).keep hb2
  have hz1 : w.heap.size ≤ w1.heap.size := hb1w.size
  have hz2 : w1.heap.size < w2.heap.size := R2.lt
  have hz3 : w.heap.size + 1 < w1.heap.size := (X1.keep hb1).lt
  obtain ⟨gd, hgd⟩ : ∃ g, w1.heap.size = g := ⟨_, rfl⟩
  obtain ⟨qd, hqd⟩ : ∃ q, w2.heap.size = q := ⟨_, rfl⟩
  have Y1 := h1.keep hb2w
  have Y2 := h2.keep hb2w
  rw [hgd] at R2 hz1 hz2 hz3
  rw [hqd] at hz2
  rw [hgd, hqd]
  obtain ⟨U, hU⟩ : ∃ U, w2.alloc (.cells #[.slice (some ⟨gd, 0, none⟩) N N] 104) = U := ⟨_, rfl⟩
  rw [hU]
  have hbU : Below w2.heap.size w2 U := by rw [← hU]; exact (Below.refl _ _).alloc (Nat.le_refl _) _
  have Qd : Bk U qd 104 #[.slice (some ⟨gd, 0, none⟩) N N] := by rw [← hU]; exact bk_last hqd
  replace Z0 := Z0.keep hbU
  replace Z1 := Z1.keep hbU
  replace R2 := R2.keep hbU
  replace Y1 := Y1.keep hbU
  replace Y2 := Y2.keep hbU
  have hBU := hb2w.trans (hbU.mono hb2w.size)
  clear hU hbU hb2w hb2 hb1w hb1 hown hgr hgd hqd X0 X1 x0 h1 h2 hbW HST
  have hqU := Qd.lt
  refine (wpIn_wide (n := 3)).1 ?_
  refine wpIn_rangeFunc_ownH rfl (by omega) (gf := 83) (lb := #[.pointer (some ⟨Bs, 0, none⟩)]) rfl trivial (enters_of Try.func83 (by kernel_rfl) rfl)
    (encs := fun _ : Unit => #[.int .i64 i]) (Kp := fun _ _ => True) (S := fun xs => xs = [()]) (Sp := fun pre => pre <+: [()]) (N := 1) (w0 := U)
    (values1_stops (3 - 1) Bs bl i (fun _ _ => True) U Y1 Y2)
    (fun _ _ => trivial) (fun _ _ _ _ _ _ _ _ => trivial) (Below.refl _ _) (fun _ => rfl)
    (fun pre W' => Below w.heap.size w W' ∧ Bk W' w.heap.size 65 #[.pointer (some ⟨b, 0, none⟩)] ∧ Bk W' (w.heap.size + 1) 4 #[.bool false] ∧ Bk W' qd 104 #[.slice (some ⟨gd, 0, none⟩) N N] ∧ (pre = [] → Bk W' gd 4 (boolCells (List.replicate N false)).toArray) ∧ (pre ≠ [] → AccS f i))
    (fun c _ W' => c = .ret ∧ ¬ AccS f i ∧ Below w.heap.size w W' ∧ Bk W' (w.heap.size + 1) 4 #[.bool false])
    ?I ?Ix ⟨hBU, Z0, Z1, Qd, fun _ => R2, fun h => absurd rfl h⟩
    (fun _ a' _ => a' = { tmps := #[.pointer (some ⟨b, 0, none⟩), .func (.func 83) #[] #[.pointer (some ⟨Bs, 0, none⟩)], .pointer (some ⟨w.heap.size, 0, none⟩), undef, .pointer (some ⟨w.heap.size + 1, 0, none⟩), .pointer (some ⟨qd, 0, none⟩), .int .i64 i, .pointer (some ⟨b, 0, none⟩), .int .i64 N, .slice (some ⟨gd, 0, none⟩) N N, .func (.func 83) #[] #[.pointer (some ⟨Bs, 0, none⟩)], .int .i64 i, undef, undef, undef, undef, undef], defers := [] })
    ?Ax ?assign ?body ?done ?stop
  case I =>
    rintro pre X X' row ⟨a1, a2, a3, a4, a5, a6⟩ hg hr
    refine ⟨a1.grown hg a1.size (fun r e => by have := (hr r e).1; omega), a2.grown hg (fun e => ?_), a3.grown hg (fun e => ?_), a4.grown hg (fun e => ?_), fun h => (a5 h).grown hg (fun e => ?_), a6⟩
    all_goals (have := (hr _ e.symm).1; omega)
  case Ix =>
    rintro c pre X X' row ⟨a0, a1, a2, a3⟩ hg hr
    exact ⟨a0, a1, a2.grown hg a2.size (fun r e => by have := (hr r e).1; omega), a3.grown hg (fun e => by have := (hr _ e.symm).1; omega)⟩
  case Ax => exact fun _ _ _ _ _ _ h _ _ => h
  case assign =>
    rintro l pre x X K ⟨a1, a2, a3, a4, a5, a6⟩ hK
    gi_wp2
    exact hK _ _ (KeepsFrom.refl _ _) trivial ⟨a1, a2, a3, a4, a5, a6⟩ rfl
  case body =>
    rintro l pre x a' X hlz hrec ⟨a1, a2, a3, a4, a5, a6⟩ rfl hlt
    obtain rfl : pre = [] := List.eq_nil_of_length_eq_zero (by omega)
    have R := a5 rfl
    have HL := Lib.hid (HLP.out X gd a1 hz1 R)
    have hnn := fun (W : World) => run_neq_slice_nil_any (P := Try.prog) W 60 94 none 0 0 0 0 Try.underlying60
    have hns := fun (W : World) (a : Addr) (k c : Nat) => run_neq_slice_nil_any (P := Try.prog) W 60 94 (some a) k c 0 0 Try.underlying60
    have y0 := a2.cell 0
    have y1 := a4.cell 0
    simp at y0 y1
    have HA := Lib.hid (And.intro a1 (And.intro a2 (And.intro a3 a4)))
    clear a1 a2 a3 a4 a5 a6 R hrec HLP Y1 Y2 Z0 Z1 R2 Qd hBU
    gi_wp2
    refine ⟨trivial, (CallsIn.inRound l (callsIn_wide.2 HL.out)).mono ?_⟩
    rintro e X2 ⟨c1, c2, c3, c4⟩
    obtain ⟨a1, a2, a3, a4⟩ := HA.out
    have b1 := a1.trans c1
    have b2 := c3 _ _ _ a2 (by omega) (by decide)
    have b3 := c3 _ _ _ a3 (by omega) (by decide)
    have b4 := c3 _ _ _ a4 (by omega) (by decide)
    have z0 := b3.cell 0
    have z1 := b3.fz 0
    have z2 := b3.lt
    simp at z0
    have HB := Lib.hid (And.intro b1 (And.intro b2 (And.intro b3 b4)))
    clear a1 a2 a3 a4 c1 c3 b1 b2 b3 b4
    rcases c4 with ⟨ak, rfl⟩ | ⟨na, ap, kp, cp, rfl⟩
    · gi_wp2
      obtain ⟨b1, b2, b3, b4⟩ := HB.out
      exact ⟨c2.from _, trivial, b1, b2, b3, b4, fun h => by simp at h, fun _ => ak⟩
    · gi_wp2
      obtain ⟨b1, b2, b3, b4⟩ := HB.out
      exact ⟨(c2.trans (KeepsOthers.setCell _ _ _)).from _, rfl, na, b1.setCell (by simp) _, by simpa using b3.put 0 (.bool false)⟩
  case done =>
    rintro D xs X hD rfl ⟨a1, a2, a3, a4, _, a6⟩ hK
    have ak := a6 (by simp)
    have y0 := a3.cell 0
    have y1 := a3.fz 0
    have y2 := a3.lt
    simp at y0
    have HA := Lib.hid (And.intro a1 (And.intro a3 hK))
    clear a1 a2 a3 a4 a6 hK HLP Y1 Y2 Z0 Z1 R2 Qd hBU
    gi_wp2
    go_wp2_with fail
    obtain ⟨a1, a3, hK⟩ := HA.out
    have b1 := a1.setCell (p := ⟨w.heap.size + 1, 0, none⟩) (by simp) (.bool true)
    have b3 := a3.put 0 (.bool true)
    have hK' : (X.setCell ⟨w.heap.size + 1, 0, none⟩ (.bool true)).heap[D]? = some (.deferred (some [])) := (Below.heap_setCell _ ⟨w.heap.size + 1, 0, none⟩ _ _ (by simp; omega)).trans hK
    generalize X.setCell ⟨w.heap.size + 1, 0, none⟩ (.bool true) = F at *
    have d2 : Bk (F.putObj D (.deferred none)) (w.heap.size + 1) 4 _ := (World.putObj_heap_other (by omega)).trans b3
    have e2 := d2.cell 0
    simp at e2
    refine ⟨by simp, .inl ⟨_, _, rfl, run_takeDeferred hK', ?_⟩⟩
    exact ⟨.bool true, by simp [results, Try.results46, go_sem, e2], b1.grown (grownBy_putObj' _ _ _) b1.size (fun r e => by injection e with e; omega), .inl ⟨ak, rfl⟩⟩
  case stop =>
    rintro D c pre X hD hp ⟨rfl, na, a2, a3⟩ hK
    gi_wp2
    have d2 : Bk (X.putObj D (.deferred none)) (w.heap.size + 1) 4 _ := (World.putObj_heap_other (by omega)).trans a3
    have e2 := d2.cell 0
    simp at e2
    refine ⟨by simp, .inl ⟨_, _, rfl, run_takeDeferred hK, ?_⟩⟩
    exact ⟨.bool false, by simp [results, Try.results46, go_sem, e2], a2.grown (grownBy_putObj' _ _ _) a2.size (fun r e => by injection e with e; omega), .inr ⟨na, rfl⟩⟩

end Go.Proofs.Ytkikjmkpndmdcaa
