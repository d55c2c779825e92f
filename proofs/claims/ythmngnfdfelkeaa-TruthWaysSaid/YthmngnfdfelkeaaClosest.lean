/-
  What is proved: the contracts of Closest and of Lift.
-/
import Derived.Test.YthmngnfdfelkeaaTold
namespace Go.Proofs.Ythmngnfdfelkeaa
open Go.RowKit
attribute [local go_sem ↓] max_int min_int

theorem run_store_func {P : Program} {w : World} {a : Addr} {m : Mode} (f : Fn) (xs ys : Array Value) : (store a (.func f xs ys) m).run P w = stored P w a (.func f xs ys) m := run_store P w a _ m rfl
attribute [local go_sem] run_store_func

set_option maxRecDepth 100000 in
set_option maxHeartbeats 2000000 in
theorem close1_any (a b g : Nat) (p : Gp) (z : GLoc) (l : Int) (c : Nat) (w : World) (hA : Bk w a 3 #[.int .i64 l]) (hC : Bk w b 94 #[.func (.func 90) #[.pointer (some ⟨g, 0, none⟩)] #[]]) (G : Bk w g 154 (p.cells z)) (hp : GpAt w p z) (hok : p.ok = true) (hc : c < p.f.kinds.length) (hl : 0 ≤ l ∧ l ≤ 1000000000) :
    Calls Try.prog 91 #[.int .i64 c, .pointer (some ⟨a, 0, none⟩), .pointer (some ⟨b, 0, none⟩)] w fun e w' => e = .returned (.int .i64 (l - topV p c)) ∧ Below w.heap.size w w' := by
  have HS : Hid (∀ x : Ext w, Calls Try.prog 90 #[.pointer (some ⟨g, 0, none⟩), .int .i64 c] x.w fun e w' => e = .returned (.int .i64 (topV p c)) ∧ Below x.w.heap.size x.w w') := fun x => highest_any g p z c x.w (G.keep x.bel) (hp.below x.bel) hok hc
  have hb := top_bound hok hc
  have a0 := hA.cell 0
  have c0 := hC.cell 0
  simp at a0 c0
  have X0 := fun x : Ext w => keepc x.bel a0
  have X1 := fun x : Ext w => keepc x.bel c0
  clear G hp hok hc hA hC a0 c0
  generalize topV p c = m at *
  go_enter Try.func91, Try.ntmps91
  go_upto_region 1 with fail
  refine wp_region_ext (by kernel_rfl) (by kernel_rfl) ?_
  repeat (go_big_quiet_step ((go_at_call 90; exact ext_of (HS.out _))))
  refine wpQuiet_nil ?_
  rintro _ ⟨y, rfl⟩
  have hb1 := y.bel
  generalize y.w = w2 at hb1
  go_wp2_with fail
  go_ret
  exact ⟨rfl, hb1⟩

/-- What Closest gives. -/
def closeR (p : Gp) (l : Int) : List Int × Int :=
  if p.ok then if inB l 0 1000000000 then ((List.range p.bed.length).map fun c => l - topV p c, 0) else ([], 1) else ([], layE p)

set_option maxRecDepth 100000 in
set_option maxHeartbeats 4000000 in
theorem closest_any (p : Gp) (z : GLoc) (l : Int) (w : World) (hp : GpAt w p z) :
    Calls Try.prog 37 #[p.f.val z.a1 z.c1, .slice z.a2 p.bed.length z.c2, .slice z.a3 p.run.length z.c3, .int .i64 l] w fun e w' => ∃ v, e = .returned (.tuple #[v, .int .i64 (closeR p l).2]) ∧ w'.ownsRow w.heap.size 3 1 v (closeR p l).1.length (intCells (closeR p l).1) ∧ Below w.heap.size w w' := by
  have HO : Hid (∀ W, GpAt W p z → Calls Try.prog 83 #[p.f.val z.a1 z.c1, .slice z.a2 p.bed.length z.c2, .slice z.a3 p.run.length z.c3] W (LayPost p z W)) := fun W h => lay_any p z W h
  have HI := fun W => lifted_any l W
  unfold Fac.val at HO ⊢
  go_enter Try.func37, Try.ntmps37
  go_wp2_with fail
  refine (HO.out _ ((hp.alloc _).alloc _)).mono ?_
  rintro e w1 ⟨hb1, h⟩
  have hB : Below w.heap.size w w1 := (((Below.refl _ _).alloc (Nat.le_refl _) _).alloc (by simp) _).trans (hb1.mono (by simp; omega))
  have L : Bk w1 (w.heap.size + 1) 3 #[.int .i64 l] := (bk_last (by simp)).keep hb1
  have l0 := L.cell 0
  simp at l0
  clear hb1
  rcases h with ⟨h1, rfl⟩ | ⟨h1, g, rfl, hg, R⟩
  · have hR : closeR p l = ([], layE p) := by simp [closeR, h1]
    have hne : ((layE p == 0)) = false := by
      simp only [layE]
      simp only [Gp.ok, Bool.and_eq_false_iff] at h1
      rcases h1 with h1 | h1 <;> simp [h1]
      split <;> simp
    have HR := Lib.hid hR
    clear hR h1
    generalize layE p = le at *
    go_wp2_with fail
    go_ret2
    exact ⟨.slice none 0 0, by rw [HR.out]; rfl, by rw [HR.out]; exact World.ownsRow_nil _ _ _ _, hB⟩
  · cases hl : inB l 0 1000000000
    · have hR : closeR p l = ([], 1) := by simp [closeR, h1, hl]
      have HR := Lib.hid hR
      rw [hl] at HI
      clear hR hl
      go_wp2_with (go_at_call 84; refine (HI _).mono ?_; rintro e w2 ⟨rfl, hb2⟩)
      go_ret2
      exact ⟨.slice none 0 0, by rw [HR.out]; rfl, by rw [HR.out]; exact World.ownsRow_nil _ _ _ _, hB.trans (hb2.mono hB.size)⟩
    · have hR : closeR p l = ((List.range p.bed.length).map fun c => l - topV p c, 0) := by simp [closeR, h1, hl]
      have HR := Lib.hid hR
      rw [hl] at HI
      have hlb : 0 ≤ l ∧ l ≤ 1000000000 := by simpa [inB] using hl
      obtain ⟨h2, h3, _⟩ := gp_ok h1
      obtain ⟨_, _, _, _, _, _, _, k8⟩ := fac_ok h2
      clear hR hl
      go_wp2_with (go_at_call 84; refine (HI _).mono ?_; rintro e w2 ⟨rfl, hb2⟩)
      have hB2 := hB.trans (hb2.mono hB.size)
      have R2 := R.keep hb2
      have L2 := L.keep hb2
      have hX : Below w2.heap.size w2 (w2.alloc (.cells #[.func (.func 90) #[.pointer (some ⟨g, 0, none⟩)] #[]] 94)) := (Below.refl _ _).alloc (Nat.le_refl _) _
      have hF : Bk (w2.alloc (.cells #[.func (.func 90) #[.pointer (some ⟨g, 0, none⟩)] #[]] 94)) w2.heap.size 94 #[.func (.func 90) #[.pointer (some ⟨g, 0, none⟩)] #[]] := bk_last rfl
      have HT := Lib.hid (told91_any (w.heap.size + 1) w2.heap.size g p z (fun c => l - topV p c) _ (R2.keep hX) (by omega) (fun W i hb hi => close1_any _ _ g p z l i W ((L2.keep hX).keep hb) (hF.keep hb) ((R2.keep hX).keep hb) (((hp.below hB2).below hX).below hb) h1 (by omega) hlb))
      have hB3 := hB2.trans (hX.mono hB2.size)
      go_wp2_with (go_at_call 85; refine (HT.out).mono ?_; rintro e w3 ⟨v, rfl, ho, hb3⟩; obtain ⟨A3, c3, rfl, _, _, _⟩ := own_form ho)
      go_ret2
      have hB4 := hB3.trans (hb3.mono hB3.size)
      exact ⟨_, by rw [HR.out]; rfl, by rw [HR.out]; simpa [h3] using own_base ho hB3.size, hB4⟩

/-- What Lift gives. -/
def liftR (p : Gp) (l : Int) : Int × Int :=
  if p.ok then if inB l (-1000000000) 1000000000 then (max 0 (l + mostF (topV p) p.bed.length), 0) else (0, 1) else (0, layE p)

end Go.Proofs.Ythmngnfdfelkeaa
