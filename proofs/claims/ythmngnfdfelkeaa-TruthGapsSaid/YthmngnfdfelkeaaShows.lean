/-
  What is proved: the contract of truth.Gaps.
-/
import Derived.Test.YthmngnfdfelkeaaClosest
namespace Go.Proofs.Ythmngnfdfelkeaa
open Go.RowKit
attribute [local go_sem ↓] max_int min_int
attribute [local go_sem] run_store_func

set_option maxRecDepth 100000 in
set_option maxHeartbeats 2000000 in
theorem gaps1_any (a b d g : Nat) (p : Gp) (z : GLoc) (l : Int) (t c : Nat) (w : World) (hA : Bk w a 3 #[.int .i64 l]) (hC : Bk w b 114 #[.pointer (some ⟨g, 0, none⟩)]) (hD : Bk w d 3 #[.int .i64 t]) (G : Bk w g 154 (p.cells z)) (hp : GpAt w p z) (hok : p.ok = true) (hc : c < p.f.kinds.length) (ht : (t : Int) < p.f.sec) (hl : 0 ≤ l ∧ l ≤ 1000000000) :
    Calls Try.prog 86 #[.int .i64 c, .pointer (some ⟨a, 0, none⟩), .pointer (some ⟨b, 0, none⟩), .pointer (some ⟨d, 0, none⟩)] w fun e w' => e = .returned (.int .i64 (l - sumV p c t)) ∧ Below w.heap.size w w' := by
  have HS : Hid (∀ x : Ext w, Calls Try.prog 87 #[.pointer (some ⟨g, 0, none⟩), .int .i64 c, .int .i64 t] x.w fun e w' => e = .returned (.int .i64 (sumV p c t)) ∧ Below x.w.heap.size x.w w') := fun x => sum_any g p z c t x.w (G.keep x.bel) (hp.below x.bel) hok hc ht
  have hb := sum_bound (t := t) hok hc
  have a0 := hA.cell 0
  have c0 := hC.cell 0
  have d0 := hD.cell 0
  simp at a0 c0 d0
  have X0 := fun x : Ext w => keepc x.bel a0
  have X1 := fun x : Ext w => keepc x.bel c0
  have X2 := fun x : Ext w => keepc x.bel d0
  clear G hp hok hc hA hC hD a0 c0 d0 ht
  generalize sumV p c t = m at *
  go_enter Try.func86, Try.ntmps86
  go_upto_region 1 with fail
  refine wp_region_ext (by kernel_rfl) (by kernel_rfl) ?_
  repeat (go_big_quiet_step ((go_at_call 87; exact ext_of (HS.out _))))
  refine wpQuiet_nil ?_
  rintro _ ⟨y, rfl⟩
  have hb1 := y.bel
  generalize y.w = w2 at hb1
  go_wp2_with fail
  go_ret
  exact ⟨rfl, hb1⟩

/-- What Gaps gives. -/
def gapsR (p : Gp) (l t : Int) : List Int × Int :=
  if p.ok then if inB l 0 1000000000 && decide (0 ≤ t ∧ t < p.f.sec) then ((List.range p.bed.length).map fun c => l - sumV p c t.toNat, 0) else ([], 1) else ([], layE p)

theorem lay_ne {p : Gp} (h1 : p.ok = false) : (layE p == 0) = false := by
  simp only [layE]
  simp only [Gp.ok, Bool.and_eq_false_iff] at h1
  rcases h1 with h1 | h1 <;> simp [h1]
  split <;> simp

set_option maxRecDepth 100000 in
set_option maxHeartbeats 4000000 in
theorem gapsT_any (p : Gp) (z : GLoc) (l t : Int) (w : World) (hp : GpAt w p z) :
    Calls Try.prog 35 #[p.f.val z.a1 z.c1, .slice z.a2 p.bed.length z.c2, .slice z.a3 p.run.length z.c3, .int .i64 l, .int .i64 t] w fun e w' => ∃ v, e = .returned (.tuple #[v, .int .i64 (gapsR p l t).2]) ∧ w'.ownsRow w.heap.size 3 1 v (gapsR p l t).1.length (intCells (gapsR p l t).1) ∧ Below w.heap.size w w' := by
  have HO : Hid (∀ W, GpAt W p z → Calls Try.prog 83 #[p.f.val z.a1 z.c1, .slice z.a2 p.bed.length z.c2, .slice z.a3 p.run.length z.c3] W (LayPost p z W)) := fun W h => lay_any p z W h
  have HI := fun W => lifted_any l W
  unfold Fac.val at HO ⊢
  go_enter Try.func35, Try.ntmps35
  go_wp2_with fail
  refine (HO.out _ (((hp.alloc _).alloc _).alloc _)).mono ?_
  rintro e w1 ⟨hb1, h⟩
  have hB : Below w.heap.size w w1 := ((((Below.refl _ _).alloc (Nat.le_refl _) _).alloc (by simp) _).alloc (by simp; omega) _).trans (hb1.mono (by simp; omega))
  have F : Bk w1 w.heap.size 24 #[.int .i64 p.f.eye, .int .i64 p.f.rings, .int .i64 p.f.sec, .slice z.a1 p.f.kinds.length z.c1] := (((bk_last rfl).alloc _).alloc _).keep hb1
  have L : Bk w1 (w.heap.size + 1) 3 #[.int .i64 l] := ((bk_last (by simp)).alloc _).keep hb1
  have T : Bk w1 (w.heap.size + 1 + 1) 3 #[.int .i64 t] := (bk_last (by simp)).keep hb1
  have l0 := L.cell 0
  have t0 := T.cell 0
  have f2 := F.cell 2
  simp at l0 t0 f2
  have ll := L.lt
  have tl := T.lt
  have fl := F.lt
  clear hb1
  rcases h with ⟨h1, rfl⟩ | ⟨h1, g, rfl, hg, R⟩
  · have HR := Lib.hid (show gapsR p l t = ([], layE p) by simp [gapsR, h1])
    have hne := lay_ne h1
    clear h1
    generalize layE p = le at *
    go_wp2_with fail
    go_ret2
    exact ⟨.slice none 0 0, by rw [HR.out]; rfl, by rw [HR.out]; exact World.ownsRow_nil _ _ _ _, hB.alloc hB.size _⟩
  · cases hl : inB l 0 1000000000
    · have HR := Lib.hid (show gapsR p l t = ([], 1) by simp [gapsR, h1, hl])
      rw [hl] at HI
      clear hl
      go_wp2_with (go_at_call 84; refine (HI _).mono ?_; rintro e w2 ⟨rfl, hb2⟩)
      go_ret2
      exact ⟨.slice none 0 0, by rw [HR.out]; rfl, by rw [HR.out]; exact World.ownsRow_nil _ _ _ _, (hB.alloc hB.size _).trans (hb2.mono (by have := hB.size; simp; omega))⟩
    · by_cases ht : 0 ≤ t ∧ t < p.f.sec
      · have HR := Lib.hid (show gapsR p l t = ((List.range p.bed.length).map fun c => l - sumV p c t.toNat, 0) by simp [gapsR, h1, hl, ht])
        obtain ⟨tn, rfl⟩ : ∃ tn : Nat, t = tn := ⟨t.toNat, by omega⟩
        rw [Int.toNat_natCast] at HR
        rw [hl] at HI
        have hlb : 0 ≤ l ∧ l ≤ 1000000000 := by simpa [inB] using hl
        obtain ⟨h2, h3, _⟩ := gp_ok h1
        obtain ⟨_, _, _, _, _, k6, _, k8⟩ := fac_ok h2
        obtain ⟨ht0, ht1⟩ := ht
        clear hl
        obtain ⟨w1a, hw1a⟩ : ∃ W, w1.alloc (.cells #[.pointer (some ⟨g, 0, none⟩)] 114) = W := ⟨_, rfl⟩
        have hX : Below w1.heap.size w1 w1a := by rw [← hw1a]; exact (Below.refl _ _).alloc (Nat.le_refl _) _
        have C : Bk w1a w1.heap.size 114 #[.pointer (some ⟨g, 0, none⟩)] := by rw [← hw1a]; exact bk_last rfl
        have hB1 := hB.trans (hX.mono hB.size)
        have c0 := C.cell 0
        have m0 := (L.keep hX).cell 0
        have m1 := (T.keep hX).cell 0
        have m2 := (F.keep hX).cell 2
        simp at c0 m0 m1 m2
        go_wp2_with fail
        refine (HI _).mono ?_
        rintro e w2 ⟨rfl, hb2⟩
        have hB2 := hB1.trans (hb2.mono hB1.size)
        have R2 := (R.keep hX).keep hb2
        have L2 := (L.keep hX).keep hb2
        have T2 := (T.keep hX).keep hb2
        have F2 := (F.keep hX).keep hb2
        have C2 := C.keep hb2
        have n0 := L2.cell 0
        have n1 := T2.cell 0
        have n2 := F2.cell 2
        have n3 := C2.cell 0
        simp at n0 n1 n2 n3
        have HT := Lib.hid (told86_any (w.heap.size + 1) w1.heap.size (w.heap.size + 1 + 1) g p z (fun c => l - sumV p c tn) w2 R2 (by omega) (fun W i hb hi => gaps1_any _ _ _ g p z l tn i W (L2.keep hb) (C2.keep hb) (T2.keep hb) (R2.keep hb) ((hp.below hB2).below hb) h1 (by omega) ht1 hlb))
        clear c0 m0 m1 m2 l0 t0 f2
        go_wp2_with (go_at_call 85; refine (HT.out).mono ?_; rintro e w3 ⟨v, rfl, ho, hb3⟩; obtain ⟨A3, c3, rfl, _, _, _⟩ := own_form ho)
        go_ret2
        have hB4 := hB2.trans (hb3.mono hB2.size)
        exact ⟨_, by rw [HR.out]; rfl, by rw [HR.out]; simpa [h3] using own_base ho hB2.size, hB4⟩
      · have HR := Lib.hid (show gapsR p l t = ([], 1) by simp [gapsR, h1, ht])
        rw [hl] at HI
        clear hl
        by_cases ht0 : t < 0
        · go_wp2_with (go_at_call 84; refine (HI _).mono ?_; rintro e w2 ⟨rfl, hb2⟩; have n1 := keepc hb2 ((World.cell?_alloc_lt w1 (.cells #[.pointer (some ⟨g, 0, none⟩)] 114) ⟨w.heap.size + 1 + 1, 0, none⟩ T.lt).trans t0))
          go_ret2
          exact ⟨.slice none 0 0, by rw [HR.out]; rfl, by rw [HR.out]; exact World.ownsRow_nil _ _ _ _, (hB.alloc hB.size _).trans (hb2.mono (by have := hB.size; simp; omega))⟩
        · have ht1 : p.f.sec ≤ t := by omega
          clear ht
          go_wp2_with (go_at_call 84; refine (HI _).mono ?_; rintro e w2 ⟨rfl, hb2⟩; have n1 := keepc hb2 ((World.cell?_alloc_lt w1 (.cells #[.pointer (some ⟨g, 0, none⟩)] 114) ⟨w.heap.size + 1 + 1, 0, none⟩ T.lt).trans t0); have n2 := keepc hb2 ((World.cell?_alloc_lt w1 (.cells #[.pointer (some ⟨g, 0, none⟩)] 114) ⟨w.heap.size, 2, none⟩ F.lt).trans f2))
          go_ret2
          exact ⟨.slice none 0 0, by rw [HR.out]; rfl, by rw [HR.out]; exact World.ownsRow_nil _ _ _ _, (hB.alloc hB.size _).trans (hb2.mono (by have := hB.size; simp; omega))⟩

end Go.Proofs.Ythmngnfdfelkeaa
