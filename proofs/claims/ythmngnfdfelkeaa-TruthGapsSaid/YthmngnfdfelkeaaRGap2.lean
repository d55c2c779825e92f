/-
  What is proved: the contracts of the reference's Gaps and closest.
-/
import Derived.Test.YthmngnfdfelkeaaRGap
import Derived.Test.YthmngnfdfelkeaaLiftP
namespace Go.Proofs.Ythmngnfdfelkeaa
open Go.RowKit
attribute [local go_sem ↓] max_int min_int

theorem gapped_ok {p : Gp} {b : Bool} (h : gappedE p b = 0) : p.ok = true ∧ b = true := by
  unfold gappedE at h
  unfold Gp.ok
  cases h1 : p.f.ok <;> cases h2 : p.good <;> cases b <;> simp [h1, h2] at h ⊢
theorem gapped_not {p : Gp} {b : Bool} (h : gappedE p b ≠ 0) : (p.ok = false ∧ gappedE p b = layE p) ∨ (p.ok = true ∧ b = false ∧ gappedE p b = 1) := by
  unfold gappedE at h ⊢
  unfold Gp.ok layE
  cases h1 : p.f.ok <;> cases h2 : p.good <;> cases b <;> simp [h1, h2] at h ⊢

theorem gapsR_gapped (p : Gp) (l t : Int) : (gapsR p l t).2 = gappedE p (inB l 0 1000000000 && inB t 0 (p.f.sec - 1)) ∧
    (gappedE p (inB l 0 1000000000 && inB t 0 (p.f.sec - 1)) ≠ 0 → (gapsR p l t).1 = []) ∧
    (gappedE p (inB l 0 1000000000 && inB t 0 (p.f.sec - 1)) = 0 → p.ok = true ∧ (0 ≤ l ∧ l ≤ 1000000000) ∧ (0 ≤ t ∧ t < p.f.sec) ∧ (gapsR p l t).1 = gapL p l t.toNat p.bed.length) := by
  have hd : inB t 0 (p.f.sec - 1) = decide (0 ≤ t ∧ t < p.f.sec) := by
    unfold inB
    apply decide_eq_decide.2
    omega
  by_cases h : gappedE p (inB l 0 1000000000 && inB t 0 (p.f.sec - 1)) = 0
  · obtain ⟨h1, h2⟩ := gapped_ok h
    have h3 := h2
    rw [hd] at h3
    rw [h]
    simp only [Bool.and_eq_true, inB, decide_eq_true_eq] at h2
    have e : gapsR p l t = (gapL p l t.toNat p.bed.length, 0) := by unfold gapsR; rw [if_pos h1, if_pos h3]; rfl
    rw [e]
    exact ⟨rfl, fun hc => absurd rfl hc, fun _ => ⟨h1, h2.1, by omega, rfl⟩⟩
  · refine ⟨?_, fun _ => ?_, fun hc => absurd hc h⟩
    · rcases gapped_not h with ⟨h1, h2⟩ | ⟨h1, h2, h3⟩
      · rw [h2]; simp [gapsR, h1]
      · rw [h3]; rw [hd] at h2; unfold gapsR; rw [if_pos h1, if_neg (by rw [h2]; simp)]
    · rcases gapped_not h with ⟨h1, h2⟩ | ⟨h1, h2, h3⟩
      · simp [gapsR, h1]
      · rw [hd] at h2; unfold gapsR; rw [if_pos h1, if_neg (by rw [h2]; simp)]

def facC (p : Gp) (z : GLoc) : Array Value := #[.int .i64 p.f.eye, .int .i64 p.f.rings, .int .i64 p.f.sec, .slice z.a1 p.f.kinds.length z.c1]

set_option maxRecDepth 100000 in
set_option maxHeartbeats 4000000 in
theorem gapsF_any (p : Gp) (z : GLoc) (l t : Int) (w : World) (hp : GpAt w p z) :
    Calls Try.prog 36 #[p.f.val z.a1 z.c1, .slice z.a2 p.bed.length z.c2, .slice z.a3 p.run.length z.c3, .int .i64 l, .int .i64 t] w fun e w' => ∃ v, e = .returned (.tuple #[v, .int .i64 (gapsR p l t).2]) ∧ w'.ownsRow w.heap.size 3 1 v (gapsR p l t).1.length (intCells (gapsR p l t).1) ∧ Below w.heap.size w w' := by
  obtain ⟨s1, hws⟩ : ∃ s1, IntKind.i64.wrap (p.f.sec - 1) = s1 := ⟨_, rfl⟩
  have hcong : gappedE p (inB l 0 1000000000 && inB t 0 (p.f.sec - 1)) = gappedE p (inB l 0 1000000000 && inB t 0 s1) := by
    cases hf : p.f.ok
    · simp [gappedE, hf]
    · obtain ⟨_, _, _, _, k5, k6, _⟩ := fac_ok hf
      rw [← hws, IntWalk.i64_in (p.f.sec - 1) (by omega)]
  have HX0 := gapsR_gapped p l t
  rw [hcong] at HX0
  have HX := Lib.hid HX0
  obtain ⟨a, ha⟩ : ∃ a, inB l 0 1000000000 = a := ⟨_, rfl⟩
  obtain ⟨b, hb⟩ : ∃ b, inB t 0 s1 = b := ⟨_, rfl⟩
  rw [ha, hb] at HX
  have HA : Hid (∀ W : World, Calls Try.prog 70 #[.int .i64 l, .int .i64 0, .int .i64 1000000000] W fun e w' => e = .returned (.bool a) ∧ W = w') := fun W => by rw [← ha]; exact rwith_any _ _ _ W
  have HBt : Hid (∀ W : World, Calls Try.prog 70 #[.int .i64 t, .int .i64 0, .int .i64 s1] W fun e w' => e = .returned (.bool b) ∧ W = w') := fun W => by rw [← hb]; exact rwith_any _ _ _ W
  have X : Bk (w.alloc (.cells (facC p z) 24)) w.heap.size 24 (facC p z) := bk_last rfl
  have hB : Below w.heap.size w (w.alloc (.cells (facC p z) 24)) := (Below.refl _ _).alloc (Nat.le_refl _) _
  have HGp : Hid (∀ W, Below w.heap.size w W → Calls Try.prog 88 #[.agg (facC p z), .slice z.a2 p.bed.length z.c2, .slice z.a3 p.run.length z.c3, .bool (a && b)] W fun e w' => e = .returned (.int .i64 (gappedE p (a && b))) ∧ Below W.heap.size W w') := fun W h => rgapped_any p z _ W (hp.below h)
  have HGa : Hid (∀ W (k : Nat), Below w.heap.size w W → p.ok = true → (0 ≤ l ∧ l ≤ 1000000000) → (k : Int) < p.f.sec → Calls Try.prog 89 #[.agg (facC p z), .slice z.a2 p.bed.length z.c2, .slice z.a3 p.run.length z.c3, .int .i64 l, .int .i64 k] W fun e w' => ∃ v, e = .returned v ∧ w'.ownsRow W.heap.size 3 1 v p.bed.length (intCells (gapL p l k p.bed.length)) ∧ Below W.heap.size W w') := fun W k h h1 h2 h3 => rgaps_any p z l k W (hp.below h) h1 h2 h3
  clear ha hb hcong HX0
  unfold facC at *
  unfold Fac.val
  go_enter Try.func36, Try.ntmps36
  go_upto_region 1 with fail
  generalize w.alloc (.cells _ 24) = V at *
  have x0 := X.cell 0
  have x1 := X.cell 1
  have x2 := X.cell 2
  have x3 := X.cell 3
  simp at x0 x1 x2 x3
  have KG : Hid (∀ x : Ext V, Calls Try.prog 88 #[.agg #[.int .i64 p.f.eye, .int .i64 p.f.rings, .int .i64 p.f.sec, .slice z.a1 p.f.kinds.length z.c1], .slice z.a2 p.bed.length z.c2, .slice z.a3 p.run.length z.c3, .bool (a && b)] x.w fun e w' => e = .returned (.int .i64 (gappedE p (a && b))) ∧ Below x.w.heap.size x.w w') := fun x => HGp.out x.w (hB.trans (x.bel.mono hB.size))
  have KA : Hid (∀ x : Ext V, Calls Try.prog 70 #[.int .i64 l, .int .i64 0, .int .i64 1000000000] x.w fun e w' => e = .returned (.bool a) ∧ x.w = w') := fun x => HA.out x.w
  have KB : Hid (∀ x : Ext V, Calls Try.prog 70 #[.int .i64 t, .int .i64 0, .int .i64 s1] x.w fun e w' => e = .returned (.bool b) ∧ x.w = w') := fun x => HBt.out x.w
  clear HGp HA HBt
  refine wp_region_ext (by kernel_rfl) (by kernel_rfl) ?_
  have Y0 := fun x : Ext V => keepc x.bel x0
  have Y1 := fun x : Ext V => keepc x.bel x1
  have Y2 := fun x : Ext V => keepc x.bel x2
  have Y3 := fun x : Ext V => keepc x.bel x3
  clear x0 x1 x2 x3
  obtain ⟨E, hE⟩ : ∃ E, gappedE p (a && b) = E := ⟨_, rfl⟩
  rw [hE] at KG HX
  clear hE
  cases a
  · simp only [Bool.false_and] at KG
    repeat (go_big_quiet_step (fail))
    go_big_quiet_step ((go_at_call 70; exact ext_same (KA.out _)))
    repeat (go_big_quiet_step (fail))
    go_big_quiet_step ((go_at_call 88; exact ext_of (KG.out _)))
    repeat (go_big_quiet_step (fail))
    refine wpQuiet_nil ?_
    rintro _ ⟨y, rfl⟩
    clear Y0 Y1 Y2 Y3 KA KB KG
    have hb2 := y.bel
    generalize y.w = w2 at hb2 ⊢
    have hB2 := hB.trans (hb2.mono hB.size)
    have X2 := X.keep hb2
    have x0 := X2.cell 0
    have x1 := X2.cell 1
    have x2 := X2.cell 2
    have x3 := X2.cell 3
    simp at x0 x1 x2 x3
    by_cases he : E = 0
    · obtain ⟨g1, g2, g3, g4⟩ := HX.out.2.2 he
      obtain ⟨k, rfl⟩ : ∃ k : Nat, t = k := ⟨t.toNat, by omega⟩
      have HR := Lib.hid (And.intro HX.out.1 g4)
      have HC := Lib.hid (HGa.out w2 k hB2 g1 g2 g3.2)
      subst he
      clear HX HGa g1 g2 g3 g4
      go_wp2_with fail
      refine (HC.out).mono ?_
      rintro e w3 ⟨v, rfl, ho, hb3⟩
      obtain ⟨A3, c3, rfl, _, _, _⟩ := own_form ho
      go_wp2_with fail
      go_ret2
      rw [Int.toNat_natCast] at HR
      exact ⟨_, by rw [HR.out.1]; rfl, by rw [HR.out.2, gapL_len]; exact own_base ho hB2.size, hB2.trans (hb3.mono hB2.size)⟩
    · have hne : (E == 0) = false := by simpa using he
      have HR := Lib.hid (And.intro HX.out.1 (HX.out.2.1 he))
      clear HX
      go_wp2_with fail
      go_ret2
      exact ⟨.slice none 0 0, by rw [HR.out.1]; rfl, by rw [HR.out.2]; exact World.ownsRow_nil _ _ _ _, hB2⟩
  · simp only [Bool.true_and] at KG
    repeat (go_big_quiet_step (fail))
    go_big_quiet_step ((go_at_call 70; exact ext_same (KA.out _)))
    repeat (go_big_quiet_step (fail))
    go_big_quiet_step ((go_at_call 70; exact ext_same (KB.out _)))
    repeat (go_big_quiet_step (fail))
    go_big_quiet_step ((go_at_call 88; exact ext_of (KG.out _)))
    repeat (go_big_quiet_step (fail))
    refine wpQuiet_nil ?_
    rintro _ ⟨y, rfl⟩
    clear Y0 Y1 Y2 Y3 KA KB KG
    have hb2 := y.bel
    generalize y.w = w2 at hb2 ⊢
    have hB2 := hB.trans (hb2.mono hB.size)
    have X2 := X.keep hb2
    have x0 := X2.cell 0
    have x1 := X2.cell 1
    have x2 := X2.cell 2
    have x3 := X2.cell 3
    simp at x0 x1 x2 x3
    by_cases he : E = 0
    · obtain ⟨g1, g2, g3, g4⟩ := HX.out.2.2 he
      obtain ⟨k, rfl⟩ : ∃ k : Nat, t = k := ⟨t.toNat, by omega⟩
      have HR := Lib.hid (And.intro HX.out.1 g4)
      have HC := Lib.hid (HGa.out w2 k hB2 g1 g2 g3.2)
      subst he
      clear HX HGa g1 g2 g3 g4
      go_wp2_with fail
      refine (HC.out).mono ?_
      rintro e w3 ⟨v, rfl, ho, hb3⟩
      obtain ⟨A3, c3, rfl, _, _, _⟩ := own_form ho
      go_wp2_with fail
      go_ret2
      rw [Int.toNat_natCast] at HR
      exact ⟨_, by rw [HR.out.1]; rfl, by rw [HR.out.2, gapL_len]; exact own_base ho hB2.size, hB2.trans (hb3.mono hB2.size)⟩
    · have hne : (E == 0) = false := by simpa using he
      have HR := Lib.hid (And.intro HX.out.1 (HX.out.2.1 he))
      clear HX
      go_wp2_with fail
      go_ret2
      exact ⟨.slice none 0 0, by rw [HR.out.1]; rfl, by rw [HR.out.2]; exact World.ownsRow_nil _ _ _ _, hB2⟩

/-- The least gaps over the first turns. -/
def nearL (p : Gp) (l : Int) (t i : Nat) : List Int := (List.range p.bed.length).map fun c => l - mostF (fun u => sumV p c u) (if c < i then t + 1 else t)
theorem nearL_len (p : Gp) (l : Int) (t i : Nat) : (nearL p l t i).length = p.bed.length := by simp [nearL]
theorem nearL_full (p : Gp) (l : Int) (t : Nat) : nearL p l t p.bed.length = nearL p l (t + 1) 0 := by
  unfold nearL
  apply List.map_congr_left
  intro c hc
  rw [if_pos (List.mem_range.1 hc), if_neg (by omega)]
theorem nearL_get (p : Gp) (l : Int) (t i j : Nat) (hj : j < p.bed.length) : (nearL p l t i).getD j 0 = l - mostF (fun u => sumV p j u) (if j < i then t + 1 else t) := by
  unfold nearL
  exact map_getD _ hj
theorem nearL_set (p : Gp) (l : Int) (t i : Nat) (_hi : i < p.bed.length) : (nearL p l t i).set i (l - mostF (fun u => sumV p i u) (t + 1)) = nearL p l t (i + 1) := by
  apply List.ext_getElem
  · simp [nearL]
  · intro n h1 h2
    simp only [List.getElem_set, nearL, List.getElem_map, List.getElem_range]
    by_cases e : i = n
    · subst e; simp
    · rw [if_neg e]
      by_cases e2 : n < i
      · rw [if_pos e2, if_pos (by omega)]
      · rw [if_neg e2, if_neg (by omega)]
theorem nearL_one (p : Gp) (l : Int) : nearL p l 1 0 = gapL p l 0 p.bed.length := by
  unfold nearL gapL
  apply List.map_congr_left
  intro c _
  rw [if_neg (by omega)]
  simp [mostF]

end Go.Proofs.Ythmngnfdfelkeaa
