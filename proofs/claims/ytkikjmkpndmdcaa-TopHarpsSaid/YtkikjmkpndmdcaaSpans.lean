/-
  What is proved: the contract of what spans hands to filled: what the moves from a state count for.
-/
import Derived.Test.YtkikjmkpndmdcaaEnds
import Derived.Test.YtkikjmkpndmdcaaMixR
namespace Go.Proofs.Ytkikjmkpndmdcaa
open Go.RowKit Go.Shelf
attribute [local go_sem ↓] max_int min_int
attribute [local go_sem] Oper.semAt_some

theorem KpS.of_below {n : Nat} {X Y : World} (h : Below X.heap.size X Y) (hn : n ≤ X.heap.size) : KpS n X Y :=
  ⟨h.mono hn, fun k _ _ _ _ hk => (h.block k (Array.getElem?_eq_some_iff.1 hk).1).trans hk⟩
theorem KpS.set {n : Nat} {X : World} {p : Addr} {t : TypeId} {cs : Array Value} (u : Value) (hp : n ≤ p.block) (hb : Bk X p.block t cs) (ht : t ≠ 40 ∧ t ≠ 65) : KpS n X (X.setCell p u) :=
  ⟨(Below.refl _ _).setCell hp u, fun k cs' t' r ht' hk => by
    refine (Below.heap_setCell X p u k (fun e => ?_)).trans hk
    subst e
    unfold Bk at hb
    rw [hb] at hk
    injection hk with hk
    injection hk with _ e _
    subst e
    rcases ht' with h | h
    · exact ht.1 h
    · exact ht.2 h⟩
theorem KpS.refl (n : Nat) (X : World) : KpS n X X := ⟨Below.refl _ _, fun _ _ _ _ _ h => h⟩

def spCells (l : List (Int × Int)) : List Value := l.flatMap fun x => [.int .i64 x.1, .int .i64 x.2]
theorem sp_cell {W : World} {g : Nat} {l : List (Int × Int)} (h : Bk W g 42 (spCells l).toArray) {k : Nat} (hk : k < l.length) :
    W.cell? ⟨g, k * 2, none⟩ = some (.int .i64 (l.getD k (0, 0)).1) ∧ W.cell? ⟨g, k * 2 + 1, none⟩ = some (.int .i64 (l.getD k (0, 0)).2) := by
  rw [h.cell, h.cell]
  have e := fun j (hj : j < 2) => flat_get (fun x : Int × Int => [Value.int .i64 x.1, .int .i64 x.2]) 2 (fun _ => rfl) (by omega) l k j hk hj
  rw [getD_get _ _ hk]
  refine ⟨?_, ?_⟩
  · have := e 0 (by omega)
    simpa [spCells] using this
  · have := e 1 (by omega)
    simpa [spCells] using this

set_option maxRecDepth 100000 in
set_option maxHeartbeats 8000000 in
theorem spansW_any (f : Flr) (z : FLoc) (b i Bf Bc gof N : Nat) (sp : List (Int × Int)) (w : World) (hf : FlAt w b f z) (hok : f.Ok) (hi : i < f.R * f.S * f.S) (hN : N = f.R * f.S * f.S)
    (h1 : Bk w Bf 65 #[.pointer (some ⟨b, 0, none⟩)]) (h2 : Bk w Bc 75 #[.func (.func 24) #[] #[]]) (h3 : Bk w gof 42 (spCells sp).toArray) (hsl : sp.length = N) :
    Calls Try.prog 72 #[.int .i64 i, .slice (some ⟨gof, 0, none⟩) N N, .pointer (some ⟨Bf, 0, none⟩), .pointer (some ⟨Bc, 0, none⟩)] w fun e w' =>
      e = .returned (.agg #[.int .i64 (spanL (fun _ => 1) (fun k => sp.getD k (0, 0)) (stepsL f i)).1, .int .i64 (spanL (fun _ => 1) (fun k => sp.getD k (0, 0)) (stepsL f i)).2]) ∧ Below w.heap.size w w' := by
  have HN := Lib.hid hN
  have HF := Lib.hid hf
  have hNb : N ≤ 256 := by rw [hN]; exact Nat.mul_le_mul (Nat.mul_le_mul hok.r1 hok.s1) hok.s1
  clear hN
  obtain ⟨D, hD⟩ : ∃ D : Nat → Int × Int, (fun k => sp.getD k (0, 0)) = D := ⟨_, rfl⟩
  have HD : Hid (∀ k, D k = sp.getD k (0, 0)) := fun k => by rw [← hD]
  rw [hD]
  clear hD
  obtain ⟨W, hW⟩ : ∃ W, ((w.alloc (.cells #[.slice (some ⟨gof, 0, none⟩) N N] 103)).alloc (.cells #[.int .i64 0, .int .i64 0] 42)).alloc (.cells #[.int .i64 70000, .int .i64 0] 42) = W := ⟨_, rfl⟩
  have hbW : Below w.heap.size w W := by rw [← hW]; exact (((Below.refl _ _).alloc (Nat.le_refl _) _).alloc (by simp) _).alloc (by simp; omega) _
  have X5 : Bk W w.heap.size 103 #[.slice (some ⟨gof, 0, none⟩) N N] := by rw [← hW]; exact ((bk_last rfl).alloc _).alloc _
  have X6 : Bk W (w.heap.size + 1) 42 #[.int .i64 0, .int .i64 0] := by rw [← hW]; exact (bk_last (by simp)).alloc _
  have X7 : Bk W (w.heap.size + 1 + 1) 42 #[.int .i64 70000, .int .i64 0] := by rw [← hW]; exact bk_last (by simp)
  have hfW := hf.below hbW
  have Y1 := h1.keep hbW
  have Y2 := h2.keep hbW
  have Y3 := h3.keep hbW
  have y1 := Y1.cell 0
  simp at y1
  have HW := Lib.hid hW
  have HM := Lib.hid (And.intro h2 h3)
  clear hW h1 h2 h3
  refine (callsIn_wide (n := 3)).1 ?_
  refine callsIn_of_wp_marks Try.func72 rfl trivial ?_ rfl
  simp only [Try.ntmps72, List.size_toArray, List.length_cons, List.length_nil, Nat.reduceAdd, Nat.reduceSub, Array.replicate_succ, Array.replicate_zero, List.push_toArray, List.append_toArray, List.nil_append, List.cons_append]
  refine wpIn_wide.2 ?_
  go_upto_region 2 with fail
  rw [HW.out]
  clear HW
  go_wp2_with (go_at_call 73; refine (steps_any b i _).mono ?_; rintro e U ⟨rfl, h65, h3, hb3⟩)
  have hBU := hbW.trans (hb3.mono hbW.size)
  replace X5 := X5.keep hb3
  replace X6 := X6.keep hb3
  replace X7 := X7.keep hb3
  replace Y1 := Y1.keep hb3
  replace Y2 := Y2.keep hb3
  replace Y3 := Y3.keep hb3
  have hfU := hfW.below hb3
  have hz3 : W.heap.size + 1 < U.heap.size := h3.lt
  have hz7 := X7.lt
  clear hfW hb3 y1 hbW
  generalize W.heap.size = q2 at *
  refine (wpIn_wide (n := 3)).1 ?_
  refine wpIn_rangeFunc_ownH rfl (by omega) (gf := 85) (lb := #[.pointer (some ⟨q2, 0, none⟩), .pointer (some ⟨q2 + 1, 0, none⟩)]) rfl trivial (enters_of Try.func85 (by kernel_rfl) rfl)
    (encs := stepEnc f i) (Kp := KpS w.heap.size) (S := fun xs => xs = (stepsL f i).attach) (Sp := fun pre => pre <+: (stepsL f i).attach) (N := (stepsL f i).length) (w0 := U)
    (steps1_stops (3 - 1) w.heap.size b q2 (q2 + 1) f z i w U hf hok hi rfl hBU h65 h3)
    (fun h k => h.trans k) ?Kb (Below.refl _ _) (fun _ => rfl)
    (fun pre W' => Below w.heap.size w W' ∧ Bk W' w.heap.size 103 #[.slice (some ⟨gof, 0, none⟩) N N] ∧ Bk W' (w.heap.size + 1) 42 #[.int .i64 0, .int .i64 0] ∧ Bk W' (w.heap.size + 1 + 1) 42 #[.int .i64 (((pre.map (·.1)).foldl (spanF (fun _ => 1) D) (70000, 0)).1), .int .i64 (((pre.map (·.1)).foldl (spanF (fun _ => 1) D) (70000, 0)).2)])
    (fun _ _ _ => False)
    ?I (fun _ _ _ _ _ h _ _ => h) ⟨hBU, X5, X6, X7⟩
    (fun x a' W' => ∃ Bx, Bk W' Bx 94 #[.int .i64 x.1.1.out, .int .i64 x.1.1.side, .bool x.1.1.cut] ∧ Bx ≠ w.heap.size + 1 + 1 ∧ a' = { tmps := #[.int .i64 i, .slice (some ⟨gof, 0, none⟩) N N, .pointer (some ⟨Bf, 0, none⟩), .pointer (some ⟨Bc, 0, none⟩), undef, .pointer (some ⟨w.heap.size, 0, none⟩), .pointer (some ⟨w.heap.size + 1, 0, none⟩), .pointer (some ⟨w.heap.size + 1 + 1, 0, none⟩), .pointer (some ⟨Bx, 0, none⟩), .int .i64 (nextV x.1.2), undef, .agg #[.int .i64 70000, .int .i64 0], .pointer (some ⟨b, 0, none⟩), .int .i64 i, .func (.func 85) #[] #[.pointer (some ⟨q2, 0, none⟩), .pointer (some ⟨q2 + 1, 0, none⟩)], .agg #[.int .i64 x.1.1.out, .int .i64 x.1.1.side, .bool x.1.1.cut], .int .i64 (nextV x.1.2), undef, undef, undef, undef, undef, undef, undef, undef, undef, undef, undef, undef, undef, undef, undef, undef, undef, undef, undef, undef, undef, undef, undef, undef, undef, undef], defers := [] })
    ?Ax ?assign ?body ?done ?stop
  case Kb =>
    intro X l o o' hl hX hc _
    refine ⟨belowK_b (by have := hBU.size; omega) X l o o' hl hX hc ‹_›, fun k cs t r _ hk => ?_⟩
    by_cases e : k = l
    · subst e
      rw [hk] at hX
      cases hX
      cases hc
    · exact (World.putObj_heap_other e).trans hk
  case I =>
    rintro pre X X' row ⟨a1, a2, a3, a4⟩ hg hr
    refine ⟨a1.grown hg a1.size (fun r e => by have := (hr r e).1; omega), a2.grown hg (fun e => ?_), a3.grown hg (fun e => ?_), a4.grown hg (fun e => ?_)⟩
    all_goals (have := (hr _ e.symm).1; omega)
  case Ax =>
    rintro x a' _ X X' row ⟨Bx, hb, h⟩ hg hr
    refine ⟨Bx, hb.grown hg (fun e => ?_), h⟩
    obtain ⟨_, o, ho, hc⟩ := hr _ e.symm
    unfold Bk at hb
    rw [hb] at ho
    cases ho
    cases hc
  case assign =>
    rintro l pre x X K ⟨a1, a2, a3, a4⟩ hK
    unfold stepEnc
    gi_wp2
    have hba : Below X.heap.size X (X.alloc (.cells #[.int .i64 x.1.1.out, .int .i64 x.1.1.side, .bool x.1.1.cut] 94)) := (Below.refl _ _).alloc (Nat.le_refl _) _
    exact hK _ _ ((keepsO_of_below hba).from _) (.of_below hba a1.size) ⟨a1.trans (hba.mono a1.size), a2.keep hba, a3.keep hba, a4.keep hba⟩ ⟨X.heap.size, bk_last rfl, (by have := a4.lt; omega), rfl⟩
  case body =>
    rintro l pre ⟨⟨m', o⟩, hx⟩ a' X hlz hrec ⟨a1, a2, a3, a4⟩ ⟨Bx, bX, hBx, rfl⟩ hlt
    have HFO : Hid (((pre ++ [(⟨(m', o), hx⟩ : StepOf f i)]).map (·.1)).foldl (spanF (fun _ => 1) D) (70000, 0) = spanF (fun _ => 1) D ((pre.map (·.1)).foldl (spanF (fun _ => 1) D) (70000, 0)) (m', o)) := by
      simp [Hid, List.map_append, List.foldl_append]
    generalize (pre.map (·.1)).foldl (spanF (fun _ => 1) D) (70000, 0) = acc at *
    obtain ⟨ol, oh⟩ := acc
    have HA := Lib.hid (And.intro a1 (And.intro a2 (And.intro a3 (And.intro a4 bX))))
    have hq7 := a4.lt
    have y5 := a2.cell 0
    have bx0 := bX.cell 0
    have bx1 := bX.cell 1
    have bx2 := bX.cell 2
    have o0 := a4.cell 0
    have o1 := a4.cell 1
    have of0 := a4.fz 0
    have of1 := a4.fz 1
    obtain ⟨mo, ms, mc⟩ := m'
    simp only at bx0 bx1 bx2 HFO ⊢
    simp at y5 bx0 bx1 bx2 o0 o1
    have g2 := (HM.out.1.keep a1).cell 0
    have G3 := HM.out.2.keep a1
    simp at g2
    have hws := a1.size
    clear hrec h65 h3 X5 X6 X7 Y1 Y2 Y3 hfU a1 a2 a3 a4 bX hBU
    cases o with
    | none =>
      have HR : Hid (restOf D none = (0, 0)) := rfl
      unfold nextV
      gi_wp2
      have HC := Lib.hid (fun (W : World) => whole_any ⟨mo, ms, mc⟩ W)
      obtain ⟨W8, hW8⟩ : ∃ W8, X.alloc (.cells #[.int .i64 0, .int .i64 0] 42) = W8 := ⟨_, rfl⟩
      rw [hW8]
      have hb8 : Below X.heap.size X W8 := by rw [← hW8]; exact (Below.refl _ _).alloc (Nat.le_refl _) _
      have RB : Bk W8 X.heap.size 42 #[.int .i64 0, .int .i64 0] := by rw [← hW8]; exact bk_last rfl
      have r0 := RB.cell 0
      have r1 := RB.cell 1
      simp at r0 r1
      replace r0 := fun x : Ext W8 => keepc x.bel r0
      replace r1 := fun x : Ext W8 => keepc x.bel r1
      have o0' := fun x : Ext W8 => keepc x.bel (keepc hb8 o0)
      have o1' := fun x : Ext W8 => keepc x.bel (keepc hb8 o1)
      have m0 := fun x : Ext W8 => keepc x.bel (keepc hb8 bx0)
      have m1 := fun x : Ext W8 => keepc x.bel (keepc hb8 bx1)
      have m2 := fun x : Ext W8 => keepc x.bel (keepc hb8 bx2)
      have g2' := fun x : Ext W8 => keepc x.bel (keepc hb8 g2)
      clear o0 o1 bx0 bx1 bx2 g2 y5 hW8 RB of0 of1
      refine wpR_region_extmix 19 (by kernel_rfl) (by kernel_rfl) (by kernel_rfl) (by kernel_rfl) ?_
      simp only [List.take_succ_cons, List.take_zero, List.drop_succ_cons, List.drop_zero]
      repeat (go_big_quiet_step ((go_at_call 24; exact ext_of (HC.out _))))
      refine wpQuiet_nil ?_
      rintro _ ⟨y, rfl⟩
      clear r0 r1 o0' o1' m0 m1 m2 g2'
      have hb9 := y.bel
      generalize y.w = W9 at hb9 ⊢
      obtain ⟨a1, a2, a3, a4, bX⟩ := HA.out
      have hb89 := hb8.trans (hb9.mono hb8.size)
      have A4 := a4.keep hb89
      have o0 := A4.cell 0
      have o1 := A4.cell 1
      have of0 := A4.fz 0
      have of1 := A4.fz 1
      simp at o0 o1
      have olt := A4.lt
      have HA9 := Lib.hid (And.intro (a1.trans (hb89.mono a1.size)) (And.intro (a2.keep hb89) (And.intro (a3.keep hb89) A4)))
      clear a1 a2 a3 a4 bX A4
      gi_wp2
      obtain ⟨a1, a2, a3, A4⟩ := HA9.out
      have P1 := A4.put 0 (.int .i64 (min ol 1))
      have P2 := P1.put 1 (.int .i64 (max oh 1))
      have eV : spanF (fun _ => 1) D (ol, oh) (⟨mo, ms, mc⟩, none) = (min ol 1, max oh 1) := by simp only [spanF, HR.out, true_and]; first | done | rfl
      refine ⟨((keepsO_of_below hb89).trans ((KeepsOthers.setCell _ _ _).trans (KeepsOthers.setCell _ _ _))).from _, (KpS.of_below hb89 hws).trans ((KpS.set (p := ⟨w.heap.size + 1 + 1, 0, none⟩) _ (by simp; omega) A4 (by decide)).trans (KpS.set (p := ⟨w.heap.size + 1 + 1, 1, none⟩) _ (by simp; omega) P1 (by decide))), (a1.setCell (by simp; omega) _).setCell (by simp; omega) _, (a2.far (by simp; omega) _).far (by simp; omega) _, (a3.far (by simp) _).far (by simp) _, ?_⟩
      rw [HFO.out, eV]
      simpa using P2
    | some k =>
      have hst : stepR f i k := ⟨_, hx⟩
      have hkN : k < N := by rw [HN.out]; exact step_lt hok hi hst
      obtain ⟨e0, e1⟩ := sp_cell G3 (k := k) (by omega)
      have hl5 : w.heap.size < X.heap.size := by omega
      have hlg : gof < X.heap.size := G3.lt
      have HR : Hid (restOf D (some k) = ((sp.getD k (0, 0)).1, (sp.getD k (0, 0)).2)) := HD.out k
      generalize (sp.getD k (0, 0)).1 = rl at *
      generalize (sp.getD k (0, 0)).2 = rh at *
      have hkI : (k : Int) < N := by omega
      have hk1 : ((k : Int) != -1) = true := by simp
      unfold nextV
      simp only
      gi_wp2
      clear e0 e1 hkI hk1
      have HC := Lib.hid (fun (W : World) => whole_any ⟨mo, ms, mc⟩ W)
      obtain ⟨W8, hW8⟩ : ∃ W8, X.alloc (.cells #[.int .i64 rl, .int .i64 rh] 42) = W8 := ⟨_, rfl⟩
      rw [hW8]
      have hb8 : Below X.heap.size X W8 := by rw [← hW8]; exact (Below.refl _ _).alloc (Nat.le_refl _) _
      have RB : Bk W8 X.heap.size 42 #[.int .i64 rl, .int .i64 rh] := by rw [← hW8]; exact bk_last rfl
      have r0 := RB.cell 0
      have r1 := RB.cell 1
      simp at r0 r1
      replace r0 := fun x : Ext W8 => keepc x.bel r0
      replace r1 := fun x : Ext W8 => keepc x.bel r1
      have o0' := fun x : Ext W8 => keepc x.bel (keepc hb8 o0)
      have o1' := fun x : Ext W8 => keepc x.bel (keepc hb8 o1)
      have m0 := fun x : Ext W8 => keepc x.bel (keepc hb8 bx0)
      have m1 := fun x : Ext W8 => keepc x.bel (keepc hb8 bx1)
      have m2 := fun x : Ext W8 => keepc x.bel (keepc hb8 bx2)
      have g2' := fun x : Ext W8 => keepc x.bel (keepc hb8 g2)
      clear o0 o1 bx0 bx1 bx2 g2 y5 hW8 RB of0 of1
      refine wpR_region_extmix 19 (by kernel_rfl) (by kernel_rfl) (by kernel_rfl) (by kernel_rfl) ?_
      simp only [List.take_succ_cons, List.take_zero, List.drop_succ_cons, List.drop_zero]
      repeat (go_big_quiet_step ((go_at_call 24; exact ext_of (HC.out _))))
      refine wpQuiet_nil ?_
      rintro _ ⟨y, rfl⟩
      clear r0 r1 o0' o1' m0 m1 m2 g2'
      have hb9 := y.bel
      generalize y.w = W9 at hb9 ⊢
      obtain ⟨a1, a2, a3, a4, bX⟩ := HA.out
      have hb89 := hb8.trans (hb9.mono hb8.size)
      have A4 := a4.keep hb89
      have o0 := A4.cell 0
      have o1 := A4.cell 1
      have of0 := A4.fz 0
      have of1 := A4.fz 1
      simp at o0 o1
      have olt := A4.lt
      have HA9 := Lib.hid (And.intro (a1.trans (hb89.mono a1.size)) (And.intro (a2.keep hb89) (And.intro (a3.keep hb89) A4)))
      clear a1 a2 a3 a4 bX A4
      gi_wp2
      obtain ⟨a1, a2, a3, A4⟩ := HA9.out
      have P1 := A4.put 0 (.int .i64 (min ol (wrap64 (rl + 1))))
      have P2 := P1.put 1 (.int .i64 (max oh (wrap64 (rh + 1))))
      have eV : spanF (fun _ => 1) D (ol, oh) (⟨mo, ms, mc⟩, (some k)) = (min ol (wrap64 (rl + 1)), max oh (wrap64 (rh + 1))) := by simp only [spanF, HR.out, IntWalk.i64_left]; first | done | rfl
      refine ⟨((keepsO_of_below hb89).trans ((KeepsOthers.setCell _ _ _).trans (KeepsOthers.setCell _ _ _))).from _, (KpS.of_below hb89 hws).trans ((KpS.set (p := ⟨w.heap.size + 1 + 1, 0, none⟩) _ (by simp; omega) A4 (by decide)).trans (KpS.set (p := ⟨w.heap.size + 1 + 1, 1, none⟩) _ (by simp; omega) P1 (by decide))), (a1.setCell (by simp; omega) _).setCell (by simp; omega) _, (a2.far (by simp; omega) _).far (by simp; omega) _, (a3.far (by simp) _).far (by simp) _, ?_⟩
      rw [HFO.out, eV]
      simpa using P2
  case done =>
    rintro D' xs X hD rfl ⟨a1, a2, a3, a4⟩ hK
    have hfin : ((stepsL f i).attach.map (·.1)).foldl (spanF (fun _ => 1) D) (70000, 0) = spanL (fun _ => 1) D (stepsL f i) := by
      have e : (stepsL f i).attach.map (fun x => x.val) = stepsL f i := List.attach_map_subtype_val _
      rw [e]; rfl
    rw [hfin] at a4
    clear hfin
    generalize hsv : spanL (fun _ => 1) D (stepsL f i) = sv at *
    have HSV := Lib.hid hsv
    clear hsv
    have o0 := a4.cell 0
    have o1 := a4.cell 1
    have r0 := a3.cell 0
    have r1 := a3.cell 1
    have r2 := a3.fz 0
    have r3 := a3.fz 1
    have r4 := a3.lt
    simp at o0 o1 r0 r1
    have hDl := (Array.getElem?_eq_some_iff.1 hK).1
    have HA := Lib.hid (And.intro a1 (And.intro a3 hK))
    clear a1 a2 a3 a4 hK X5 X6 X7 Y1 Y2 Y3 h65 h3 hfU hBU
    gi_wp2
    go_wp2_with fail
    obtain ⟨a1, a3, hK⟩ := HA.out
    have hB3 := (a1.setCell (p := ⟨w.heap.size + 1, 0, none⟩) (by simp) (.int .i64 sv.1)).setCell (p := ⟨w.heap.size + 1, 1, none⟩) (by simp) (.int .i64 sv.2)
    have b1 := (a3.put 0 (.int .i64 sv.1)).put 1 (.int .i64 sv.2)
    have hK' : ((X.setCell ⟨w.heap.size + 1, 0, none⟩ (.int .i64 sv.1)).setCell ⟨w.heap.size + 1, 1, none⟩ (.int .i64 sv.2)).heap[D']? = some (.deferred (some [])) :=
      ((Below.heap_setCell _ ⟨w.heap.size + 1, 1, none⟩ _ _ (by simp; omega)).trans (Below.heap_setCell _ ⟨w.heap.size + 1, 0, none⟩ _ _ (by simp; omega))).trans hK
    generalize (X.setCell ⟨w.heap.size + 1, 0, none⟩ (.int .i64 sv.1)).setCell ⟨w.heap.size + 1, 1, none⟩ (.int .i64 sv.2) = F at *
    have d1 : Bk (F.putObj D' (.deferred none)) (w.heap.size + 1) 42 _ := (World.putObj_heap_other (by omega)).trans b1
    have e0 := d1.cell 0
    have e1 := d1.cell 1
    simp at e0 e1
    refine ⟨by simp, .inl ⟨_, _, rfl, run_takeDeferred hK', ?_⟩⟩
    exact ⟨.agg #[.int .i64 sv.1, .int .i64 sv.2], by simp [results, Try.results72, go_sem, e0, e1], by rw [HSV.out], hB3.grown (grownBy_putObj' _ _ _) hB3.size (fun r e => by injection e with e; omega)⟩
  case stop =>
    rintro D c pre X hD hp h hK
    exact h.elim

end Go.Proofs.Ytkikjmkpndmdcaa
