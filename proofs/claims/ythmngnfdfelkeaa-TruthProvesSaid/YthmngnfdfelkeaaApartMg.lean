/-
  What is proved: the contract of truth.Apart.
-/
import Derived.Test.YthmngnfdfelkeaaMg11
import Derived.Test.YthmngnfdfelkeaaReach2Mg
import Derived.Test.YthmngnfdfelkeaaMg9
import Derived.RangeFuncNested
namespace Go.Proofs.Ythmngnfdfelkeaa
open Go.RowKit Go.Shelf
attribute [local go_sem] Oper.semAt_some
attribute [local go_sem ↓] max_int min_int

theorem high_ok {s : Stn} (h : s.ok = true) : BoxOk lowZ (highK s s.pockets.length) := by
  refine ⟨by simp [lowZ], highK_len _ _, fun i hi => ⟨?_, ?_⟩⟩
  · rw [lowZ, List.getD_eq_getElem?_getD, List.getElem?_replicate, if_pos (by omega)]
    simp
  · have e : (highK s s.pockets.length).getD i 0 = if i < s.pockets.length then (s.pockets.getD i ((0, 0), 0)).2 else 0 := by
      simp only [highK, List.getD_eq_getElem?_getD, List.getElem?_map]
      rw [List.getElem?_eq_getElem (by simpa using hi)]
      simp
    rw [e]
    split
    · rename_i hl
      obtain ⟨_, _, _, _, _, _, _, _, hp⟩ := stn_ok h
      exact (hp _ (getD_mem ((0, 0), 0) hl)).2
    · omega

/-- Whether a stone is apart in a way. -/
def farB (s : Stn) (x : Way) : Bool := apartB s x.1 lowZ (highK s s.pockets.length)
def apartR (s : Stn) : (Int × Int) × Int :=
  if s.ok then match wayL.find? (farB s) with
    | some x => (x.1, 0)
    | none => ((0, 0), 3)
  else ((0, 0), 60)

theorem find_pre {α : Type} {p : α → Bool} {pre l : List α} {x : α} (h : pre ++ [x] <+: l) (hp : ∀ y ∈ pre, p y = false) (hx : p x = true) : l.find? p = some x := by
  obtain ⟨t, rfl⟩ := h
  rw [List.append_assoc, List.find?_append, List.find?_eq_none.2 (fun y hy => by simp [hp y hy])]
  simp [hx]

theorem keepsC_of_below {W W' : World} (h : Below W.heap.size W W') : KeepC W W' := ⟨h.size, fun b _cs _t _fr hb => (h.block b (Array.getElem?_eq_some_iff.1 hb).1).trans hb⟩
theorem keepsF_of_below {W W' : World} (B : Nat) (h : Below W.heap.size W W') : KeepsFrom B W W' := ⟨h.size, fun b _o _ hb _ => (h.block b (Array.getElem?_eq_some_iff.1 hb).1).trans hb⟩

set_option maxRecDepth 100000 in
set_option maxHeartbeats 8000000 in
theorem apartT_any (s : Stn) (z : Loc) (w : World) (hs : StAt w s z) :
    Calls Try.prog 31 #[s.val z] w fun e w' => e = .returned (pointV (apartR s)) ∧ Below w.heap.size w w' := by
  have HO : Hid (∀ W, StAt W s z → Calls Try.prog 71 #[.agg (s.cells z)] W (OpenPost s z W)) := fun W h => open_any s z W h
  unfold Stn.cells at HO
  unfold Stn.val Stn.cells
  refine (callsIn_wide (n := 3)).1 ?_
  refine callsIn_of_wp_marks Try.func31 rfl trivial ?_ rfl
  simp only [Try.ntmps31, List.size_toArray, List.length_cons, List.length_nil, Nat.reduceAdd, Nat.reduceSub, Array.replicate_succ, Array.replicate_zero, List.push_toArray, List.append_toArray, List.nil_append, List.cons_append]
  refine wpIn_wide.2 ?_
  go_wp2_with fail
  refine (HO.out _ (((hs.alloc _).alloc _).alloc _)).mono ?_
  rintro e w1 ⟨hb1, h⟩
  have hB : Below w.heap.size w w1 := ((((Below.refl _ _).alloc (Nat.le_refl _) _).alloc (by simp) _).alloc (by simp; omega) _).trans (hb1.mono (by simp; omega))
  have E : Bk w1 (w.heap.size + 1) 43 #[.int .i64 0, .int .i64 0] := ((bk_last (by simp)).alloc _).keep hb1
  have G : Bk w1 (w.heap.size + 1 + 1) 31 #[.int .i64 0] := (bk_last (by simp)).keep hb1
  have e0 := E.cell 0
  have e1 := E.cell 1
  have e2 := E.fz 0
  have e3 := E.fz 1
  have g0 := G.cell 0
  have g1 := G.fz 0
  simp at e0 e1 g0
  have hl1 := E.lt
  have hl2 := G.lt
  rcases h with ⟨h1, rfl⟩ | ⟨h1, g, rfl, hg, R⟩
  · have hR : apartR s = ((0, 0), 60) := by simp [apartR, h1]
    have HR := Lib.hid hR
    clear hR
    go_wp2_with fail
    refine ⟨pointV ((0, 0), 60), by simp [pointV, results, Try.results31, go_sem, e0, e1, g0, hl1, hl2], by rw [HR.out], ?_⟩
    repeat (first | exact hB | refine Below.setCell ?_ (by simp <;> omega) _ | refine Below.alloc ?_ (by simp <;> omega) _ | refine below_drewN ?_ _)
  · have HR : Hid (∀ x, wayL.find? (farB s) = some x → apartR s = (x.1, 0)) := fun x hx => by simp [apartR, h1, hx]
    have HN : Hid (wayL.find? (farB s) = none → apartR s = ((0, 0), 3)) := fun hx => by simp [apartR, h1, hx]
    have hgl := R.lt
    have hws := hB.size
    go_wp2_with (go_at_call 79; refine (ways_any _).mono ?_; rintro e w' ⟨rfl, rfl⟩)
    obtain ⟨U, hU⟩ : ∃ U, w1.alloc (.cells #[.pointer (some ⟨g, 0, none⟩)] 82) = U := ⟨_, rfl⟩
    have hUz : U.heap.size = w1.heap.size + 1 := by rw [← hU]; simp
    have B4 : Bk U w1.heap.size 82 #[.pointer (some ⟨g, 0, none⟩)] := by rw [← hU]; exact bk_last rfl
    have hBU : Below w1.heap.size w1 U := by rw [← hU]; exact (Below.refl _ _).alloc (Nat.le_refl _) _
    rw [hU]
    replace E := E.keep hBU
    replace G := G.keep hBU
    have hB1 := hB.trans (hBU.mono hB.size)
    replace R := R.keep hBU
    have hs1 := hs.below hB1
    have hb3 := high_ok h1
    have hqE := E.lt
    have hqG := G.lt
    clear hU hb1 e0 e1 e2 e3 g0 g1
    obtain ⟨q, hq⟩ : ∃ q, w1.heap.size = q := ⟨_, rfl⟩
    rw [hq] at B4 hUz hgl ⊢
    refine (wpIn_wide (n := 3)).1 ?_
    refine wpIn_rangeFunc_ownH rfl (by omega) (gf := 118) (lb := #[]) rfl trivial (enters_of Try.func118 (by kernel_rfl) rfl)
      (encs := encW) (Kp := KeepC) (S := fun xs => xs = wayL) (Sp := fun pre => pre <+: wayL) (N := 100000) (w0 := U)
      (fun l J Jx W hW hJ hJx hY h0 => ways1_in (3 - 1) l W J Jx (fun pre W1 W2 h hg => hJ pre W1 W2 none h hg (fun r e => by cases e)) hY h0)
      (fun h k => h.trans k) ?Kb (Below.refl _ _) (fun _ => rfl)
      (fun pre W => (∀ x ∈ pre, farB s x = false) ∧ Below U.heap.size U W)
      (fun c pre W => c = .ret ∧ ∃ pre' x, pre = pre' ++ [x] ∧ (∀ y ∈ pre', farB s y = false) ∧ farB s x = true ∧ Bk W (w.heap.size + 1) 43 #[.int .i64 x.1.1, .int .i64 x.1.2] ∧ Bk W (w.heap.size + 1 + 1) 31 #[.int .i64 0] ∧ Below w.heap.size w W)
      ?I ?Ix ⟨by simp, Below.refl _ _⟩
      (fun x a' W => ∃ Bx, Bk W Bx 43 #[.int .i64 x.1.1, .int .i64 x.1.2] ∧ ∃ u0 u1 u2 u3 u4 u5 u6 u7, a' = { tmps := #[u0, .pointer (some ⟨w.heap.size, 0, none⟩), .pointer (some ⟨w.heap.size + 1, 0, none⟩), .pointer (some ⟨w.heap.size + 1 + 1, 0, none⟩), .pointer (some ⟨q, 0, none⟩), .int .i64 0, .pointer (some ⟨Bx, 0, none⟩), u1, u2, u3, u4, u5, u6, u7, undef, undef, .func (.func 118) #[] #[], .agg #[.int .i64 x.1.1, .int .i64 x.1.2], undef, undef, undef, undef, undef, undef, undef], defers := [] })
      ?Ax ?assign ?body ?done ?stop
    case Kb =>
      intro W l o o' _ hW hc _
      refine ⟨by simp, fun b cs t fr hb => ?_⟩
      by_cases e : b = l
      · subst e
        rw [hb] at hW
        cases hW
        cases hc
      · exact (World.putObj_heap_other e).trans hb
    case I =>
      rintro pre W W' row ⟨hp, hb⟩ hg hr
      exact ⟨hp, hb.grown hg hb.size (fun r e => (hr r e).1)⟩
    case Ix =>
      rintro c pre W W' row ⟨hc, pre', x, hp, h1, h2, b1, b2, hb⟩ hg hr
      exact ⟨hc, pre', x, hp, h1, h2, b1.grown hg (fun e => by have := (hr _ e.symm).1; omega), b2.grown hg (fun e => by have := (hr _ e.symm).1; omega), hb.grown hg hb.size (fun r e => by have := (hr r e).1; omega)⟩
    case Ax =>
      rintro x a' _ W W' row ⟨Bx, hb, h⟩ hg hr
      refine ⟨Bx, hb.grown hg (fun e => ?_), h⟩
      obtain ⟨_, o, ho, hc⟩ := hr _ e.symm
      have hb' : W.heap[Bx]? = some (.cells _ 43 (0, 0)) := hb
      rw [hb'] at ho
      cases ho
      cases hc
    case assign =>
      rintro l pre x W K ⟨hp, hb⟩ hK
      unfold encW
      gi_wp2
      have hba : Below W.heap.size W (W.alloc (Obj.cells #[Value.int IntKind.i64 x.val.fst, Value.int IntKind.i64 x.val.snd] 43)) := (Below.refl _ _).alloc (Nat.le_refl _) _
      exact hK _ _ (keepsF_of_below _ hba) (keepsC_of_below hba) ⟨hp, hb.trans (hba.mono hb.size)⟩ ⟨W.heap.size, bk_last rfl, _, _, _, _, _, _, _, _, rfl⟩
    case body =>
      rintro l pre x a' W hl _ ⟨hp, hb⟩ ⟨Bx, bX, u0, u1, u2, u3, u4, u5, u6, u7, rfl⟩ hlt
      have H1 : Hid (∀ W', Below U.heap.size U W' → Calls Try.prog 74 #[.pointer (some ⟨g, 0, none⟩)] W' fun e w' => e = .returned (.agg (boxA lowZ (highK s s.pockets.length))) ∧ Below W'.heap.size W' w') := fun W' h => whole_any g s z _ W' (R.below h R.lt) (hs1.below h) h1
      have H2 : Hid (∀ W', Below U.heap.size U W' → Calls Try.prog 80 #[.pointer (some ⟨g, 0, none⟩), .agg (boxA lowZ (highK s s.pockets.length)), .agg #[.int .i64 x.1.1, .int .i64 x.1.2]] W' fun e w' => e = .returned (.bool (farB s x)) ∧ Below W'.heap.size W' w') := fun W' h => apart_any g s z lowZ (highK s s.pockets.length) x.1 W' (R.below h R.lt) (hs1.below h) h1 x.2 hb3
      have B4' := B4.below hb B4.lt
      have E' := E.below hb E.lt
      have G' := G.below hb G.lt
      have HP := Lib.hid hp
      have hmix : Try.prog.follows .mixedOrders = true := by kernel_rfl
      clear B4 E G R hs1 h1 hb3 hp
      have c4 := B4'.cell 0
      have x0 := bX.cell 0
      have x1 := bX.cell 1
      simp at c4 x0 x1
      have HBX := Lib.hid bX
      have HBK := Lib.hid hb
      gi_wp2_with (fail)
      gi_region_with_o (first | (refine ⟨trivial, ?_⟩; gi_at_call 74; refine (CallsIn.inRound l (callsIn_wide.2 (H1.out _ HBK.out.drew))).mono ?_; clear H1; rintro e W1 ⟨rfl, hb1⟩; have c4b := (B4'.drew.keep hb1).cell 0; have x0b := (HBX.out.drew.keep hb1).cell 0; have x1b := (HBX.out.drew.keep hb1).cell 1; simp at c4b x0b x1b; have HB1 := Lib.hid (HBK.out.drew.trans (hb1.mono (by simpa using HBK.out.size)))) | (refine ⟨trivial, ?_⟩; gi_at_call 80; refine (CallsIn.inRound l (callsIn_wide.2 (H2.out _ HB1.out))).mono ?_; clear H2; rintro e W2 ⟨rfl, hb2⟩; have HB2 := Lib.hid (HB1.out.trans (hb2.mono HB1.out.size))))
      all_goals
        have hbf : Below W.heap.size W W2 := (Below.refl W.heap.size W).drew.trans (hb1.trans (hb2.mono hb1.size))
        have bX2 := HBX.out.keep hbf
        have y0 := bX2.cell 0
        have y1 := bX2.cell 1
        simp at y0 y1
        have E2 := E'.keep hbf
        have G2 := G'.keep hbf
        have z0 := E2.cell 0
        have z1 := E2.cell 1
        have z2 := E2.fz 0
        have z3 := E2.fz 1
        have z4 := G2.cell 0
        have z5 := G2.fz 0
        simp at z0 z1 z4
        cases hf : farB s x
        · gi_wp2
          exact ⟨keepsF_of_below _ hbf, keepsC_of_below hbf, fun y hy => by
            rcases List.mem_append.1 hy with h | h
            · exact HP.out y h
            · rw [List.mem_singleton.1 h]; exact hf, HB2.out⟩
        · gi_wp2
          have hqE2 := E2.lt
          refine ⟨(keepsF_of_below U.heap.size hbf).trans (((KeepsOthers.setCell _ _ _).from _).trans (((KeepsOthers.setCell _ _ _).from _).trans ((KeepsOthers.setCell _ _ _).from _))), rfl, pre, x, rfl, HP.out, hf, ((E2.put 0 _).put 1 _).far (by simp) _, (((G2.far (by simp) _).far (by simp) _).put 0 _), ?_⟩
          have hB3 := hB1.trans (HB2.out.mono hB1.size)
          repeat (first | exact hB3 | refine Below.setCell ?_ (by simp <;> omega) _)
    case done =>
      rintro D xs W hD rfl ⟨hp, hb⟩ hK
      have hA := HN.out (List.find?_eq_none.2 (fun y hy => by simp [hp y hy]))
      have HA := Lib.hid hA
      have E2 := E.below hb E.lt
      have G2 := G.below hb G.lt
      have z0 := E2.cell 0
      have z1 := E2.cell 1
      have z2 := E2.fz 0
      have z3 := E2.fz 1
      have z4 := G2.cell 0
      have z5 := G2.fz 0
      simp at z0 z1 z4
      have hDl := (Array.getElem?_eq_some_iff.1 hK).1
      have HK := Lib.hid hK
      clear hA hp hK HN HR HO
      go_wp2_with fail
      have hB3 : Below w.heap.size w (((W.setCell ⟨w.heap.size + 1, 0, none⟩ (.int .i64 0)).setCell ⟨w.heap.size + 1, 1, none⟩ (.int .i64 0)).setCell ⟨w.heap.size + 1 + 1, 0, none⟩ (.int .i64 3)) := by
        have hB3 := hB1.trans (hb.mono hB1.size)
        repeat (first | exact hB3 | refine Below.setCell ?_ (by simp <;> omega) _)
      have b1 := ((E2.put 0 (.int .i64 0)).put 1 (.int .i64 0)).far (p := ⟨w.heap.size + 1 + 1, 0, none⟩) (by simp) (.int .i64 3)
      have b2 := ((G2.far (p := ⟨w.heap.size + 1, 0, none⟩) (by simp) (.int .i64 0)).far (p := ⟨w.heap.size + 1, 1, none⟩) (by simp) (.int .i64 0)).put 0 (.int .i64 3)
      have hK' : (((W.setCell ⟨w.heap.size + 1, 0, none⟩ (.int .i64 0)).setCell ⟨w.heap.size + 1, 1, none⟩ (.int .i64 0)).setCell ⟨w.heap.size + 1 + 1, 0, none⟩ (.int .i64 3)).heap[D]? = some (.deferred (some [])) :=
        ((Below.heap_setCell _ ⟨w.heap.size + 1 + 1, 0, none⟩ _ _ (by simp; omega)).trans ((Below.heap_setCell _ ⟨w.heap.size + 1, 1, none⟩ _ _ (by simp; omega)).trans (Below.heap_setCell _ ⟨w.heap.size + 1, 0, none⟩ _ _ (by simp; omega)))).trans HK.out
      generalize ((W.setCell ⟨w.heap.size + 1, 0, none⟩ (.int .i64 0)).setCell ⟨w.heap.size + 1, 1, none⟩ (.int .i64 0)).setCell ⟨w.heap.size + 1 + 1, 0, none⟩ (.int .i64 3) = F at *
      have d1 : Bk (F.putObj D (.deferred none)) (w.heap.size + 1) 43 _ := (World.putObj_heap_other (by omega)).trans b1
      have d2 : Bk (F.putObj D (.deferred none)) (w.heap.size + 1 + 1) 31 _ := (World.putObj_heap_other (by omega)).trans b2
      have e0 := d1.cell 0
      have e1 := d1.cell 1
      have e2 := d2.cell 0
      simp at e0 e1 e2
      refine ⟨by simp, .inl ⟨_, _, rfl, run_takeDeferred hK', ?_⟩⟩
      exact ⟨pointV ((0, 0), 3), by simp [pointV, results, Try.results31, go_sem, e0, e1, e2], by rw [HA.out], hB3.grown (grownBy_putObj' _ _ _) hB3.size (fun r e => by injection e with e; omega)⟩
    case stop =>
      rintro D c pre W hD hp ⟨rfl, pre', x, rfl, hf, hx, b1, b2, hb⟩ hK
      have HA := Lib.hid (HR.out x (find_pre hp hf hx))
      gi_wp2
      have d1 : Bk (W.putObj D (.deferred none)) (w.heap.size + 1) 43 _ := (World.putObj_heap_other (by omega)).trans b1
      have d2 : Bk (W.putObj D (.deferred none)) (w.heap.size + 1 + 1) 31 _ := (World.putObj_heap_other (by omega)).trans b2
      have e0 := d1.cell 0
      have e1 := d1.cell 1
      have e2 := d2.cell 0
      simp at e0 e1 e2
      refine ⟨by simp, .inl ⟨_, _, rfl, run_takeDeferred hK, ?_⟩⟩
      exact ⟨pointV (x.1, 0), by simp [pointV, results, Try.results31, go_sem, e0, e1, e2], by rw [HA.out], hb.grown (grownBy_putObj' _ _ _) hb.size (fun r e => by injection e with e; omega)⟩

end Go.Proofs.Ythmngnfdfelkeaa
