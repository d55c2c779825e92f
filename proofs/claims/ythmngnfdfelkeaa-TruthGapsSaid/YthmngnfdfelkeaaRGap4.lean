/-
  What is proved: the contracts of the reference's Closest, Lift and Rubs.
-/
import Derived.Test.YthmngnfdfelkeaaRGap3
namespace Go.Proofs.Ythmngnfdfelkeaa
open Go.RowKit
attribute [local go_sem ↓] max_int min_int

theorem closeR_gapped (p : Gp) (l : Int) : (closeR p l).2 = gappedE p (inB l 0 1000000000) ∧ (gappedE p (inB l 0 1000000000) ≠ 0 → (closeR p l).1 = []) ∧
    (gappedE p (inB l 0 1000000000) = 0 → p.ok = true ∧ (0 ≤ l ∧ l ≤ 1000000000) ∧ (closeR p l).1 = (List.range p.bed.length).map fun c => l - topV p c) := by
  by_cases h : gappedE p (inB l 0 1000000000) = 0
  · obtain ⟨h1, h2⟩ := gapped_ok h
    rw [h]
    have e : closeR p l = ((List.range p.bed.length).map fun c => l - topV p c, 0) := by unfold closeR; rw [if_pos h1, if_pos h2]
    rw [e]
    exact ⟨rfl, fun hc => absurd rfl hc, fun _ => ⟨h1, of_decide_eq_true h2, rfl⟩⟩
  · refine ⟨?_, fun _ => ?_, fun hc => absurd hc h⟩
    · rcases gapped_not h with ⟨h1, h2⟩ | ⟨h1, h2, h3⟩
      · rw [h2]; simp [closeR, h1]
      · rw [h3]; unfold closeR; rw [if_pos h1, if_neg (by rw [h2]; simp)]
    · rcases gapped_not h with ⟨h1, h2⟩ | ⟨h1, h2, h3⟩
      · simp [closeR, h1]
      · unfold closeR; rw [if_pos h1, if_neg (by rw [h2]; simp)]

theorem liftR_gapped (p : Gp) (l : Int) : (gappedE p (inB l (-1000000000) 1000000000) ≠ 0 → liftR p l = (0, gappedE p (inB l (-1000000000) 1000000000))) ∧
    (gappedE p (inB l (-1000000000) 1000000000) = 0 → p.ok = true ∧ (-1000000000 ≤ l ∧ l ≤ 1000000000) ∧ liftR p l = (max 0 (l + mostF (topV p) p.bed.length), 0)) := by
  by_cases h : gappedE p (inB l (-1000000000) 1000000000) = 0
  · obtain ⟨h1, h2⟩ := gapped_ok h
    exact ⟨fun hc => absurd h hc, fun _ => ⟨h1, of_decide_eq_true h2, by unfold liftR; rw [if_pos h1, if_pos h2]⟩⟩
  · refine ⟨fun _ => ?_, fun hc => absurd hc h⟩
    rcases gapped_not h with ⟨h1, h2⟩ | ⟨h1, h2, h3⟩
    · rw [h2]; simp [liftR, h1]
    · rw [h3]; unfold liftR; rw [if_pos h1, if_neg (by rw [h2]; simp)]


set_option maxRecDepth 100000 in
set_option maxHeartbeats 4000000 in
theorem closestF_any (p : Gp) (z : GLoc) (l : Int) (w : World) (hp : GpAt w p z) :
    Calls Try.prog 38 #[p.f.val z.a1 z.c1, .slice z.a2 p.bed.length z.c2, .slice z.a3 p.run.length z.c3, .int .i64 l] w fun e w' => ∃ v, e = .returned (.tuple #[v, .int .i64 (closeR p l).2]) ∧ w'.ownsRow w.heap.size 3 1 v (closeR p l).1.length (intCells (closeR p l).1) ∧ Below w.heap.size w w' := by
  have HX := Lib.hid (closeR_gapped p l)
  obtain ⟨a, ha⟩ : ∃ a, inB l 0 1000000000 = a := ⟨_, rfl⟩
  rw [ha] at HX
  have HA : Hid (∀ W : World, Calls Try.prog 70 #[.int .i64 l, .int .i64 0, .int .i64 1000000000] W fun e w' => e = .returned (.bool a) ∧ W = w') := fun W => by rw [← ha]; exact rwith_any _ _ _ W
  have X : Bk (w.alloc (.cells (facC p z) 24)) w.heap.size 24 (facC p z) := bk_last rfl
  have hB : Below w.heap.size w (w.alloc (.cells (facC p z) 24)) := (Below.refl _ _).alloc (Nat.le_refl _) _
  have HGp : Hid (∀ W, Below w.heap.size w W → Calls Try.prog 88 #[.agg (facC p z), .slice z.a2 p.bed.length z.c2, .slice z.a3 p.run.length z.c3, .bool a] W fun e w' => e = .returned (.int .i64 (gappedE p a)) ∧ Below W.heap.size W w') := fun W h => rgapped_any p z _ W (hp.below h)
  have HCl : Hid (∀ W, Below w.heap.size w W → p.ok = true → (0 ≤ l ∧ l ≤ 1000000000) → Calls Try.prog 92 #[.agg (facC p z), .slice z.a2 p.bed.length z.c2, .slice z.a3 p.run.length z.c3, .int .i64 l] W fun e w' => ∃ v, e = .returned v ∧ w'.ownsRow W.heap.size 3 1 v p.bed.length (intCells ((List.range p.bed.length).map fun c => l - topV p c)) ∧ Below W.heap.size W w') := fun W h h1 h2 => rclosest_any p z l W (hp.below h) h1 h2
  clear ha
  unfold facC at *
  unfold Fac.val 
  go_enter Try.func38, Try.ntmps38
  go_upto_region 1 with fail
  generalize w.alloc (.cells _ 24) = V at *
  have x0 := X.cell 0
  have x1 := X.cell 1
  have x2 := X.cell 2
  have x3 := X.cell 3
  simp at x0 x1 x2 x3
  have KG : Hid (∀ x : Ext V, Calls Try.prog 88 #[.agg #[.int .i64 p.f.eye, .int .i64 p.f.rings, .int .i64 p.f.sec, .slice z.a1 p.f.kinds.length z.c1], .slice z.a2 p.bed.length z.c2, .slice z.a3 p.run.length z.c3, .bool a] x.w fun e w' => e = .returned (.int .i64 (gappedE p a)) ∧ Below x.w.heap.size x.w w') := fun x => HGp.out x.w (hB.trans (x.bel.mono hB.size))
  have KA : Hid (∀ x : Ext V, Calls Try.prog 70 #[.int .i64 l, .int .i64 0, .int .i64 1000000000] x.w fun e w' => e = .returned (.bool a) ∧ x.w = w') := fun x => HA.out x.w
  clear HGp HA
  refine wp_region_ext (by kernel_rfl) (by kernel_rfl) ?_
  have Y0 := fun x : Ext V => keepc x.bel x0
  have Y1 := fun x : Ext V => keepc x.bel x1
  have Y2 := fun x : Ext V => keepc x.bel x2
  have Y3 := fun x : Ext V => keepc x.bel x3
  clear x0 x1 x2 x3
  obtain ⟨E, hE⟩ : ∃ E, gappedE p a = E := ⟨_, rfl⟩
  rw [hE] at KG HX
  clear hE
  repeat (go_big_quiet_step (fail))
  go_big_quiet_step ((go_at_call 70; exact ext_same (KA.out _)))
  repeat (go_big_quiet_step (fail))
  go_big_quiet_step ((go_at_call 88; exact ext_of (KG.out _)))
  repeat (go_big_quiet_step (fail))
  refine wpQuiet_nil ?_
  rintro _ ⟨y, rfl⟩
  clear Y0 Y1 Y2 Y3 KA KG
  have hb2 := y.bel
  generalize y.w = w2 at hb2 ⊢
  have hB2 := hB.trans (hb2.mono hB.size)
  have X2 := X.keep hb2
  have x0 := X2.cell 0
  have x1 := X2.cell 1
  have x2 := X2.cell 2
  have x3 := X2.cell 3
  simp at x0 x1 x2 x3
  by_cases he : E = 0
  · obtain ⟨g1, g2, g4⟩ := HX.out.2.2 he
    have HR := Lib.hid (And.intro HX.out.1 g4)
    have HC := Lib.hid (HCl.out w2 hB2 g1 g2)
    subst he
    clear HX HCl g1 g2 g4
    go_wp2_with fail
    refine (HC.out).mono ?_
    rintro e w3 ⟨v, rfl, ho, hb3⟩
    obtain ⟨A3, c3, rfl, _, _, _⟩ := own_form ho
    go_wp2_with fail
    go_ret2
    exact ⟨_, by rw [HR.out.1]; rfl, by rw [HR.out.2]; simpa using own_base ho hB2.size, hB2.trans (hb3.mono hB2.size)⟩
  · have hne : (E == 0) = false := by simpa using he
    have HR := Lib.hid (And.intro HX.out.1 (HX.out.2.1 he))
    clear HX
    go_wp2_with fail
    go_ret2
    exact ⟨.slice none 0 0, by rw [HR.out.1]; rfl, by rw [HR.out.2]; exact World.ownsRow_nil _ _ _ _, hB2⟩

/-- The least lift so far. -/
def liftK (p : Gp) (l : Int) (k : Nat) : Int := if k = 0 then 0 else max 0 (l + mostF (topV p) k)
theorem liftK_succ (p : Gp) (l : Int) (k : Nat) : liftK p l (k + 1) = max (liftK p l k) (l + topV p k) := by
  unfold liftK
  rw [if_neg (by omega)]
  by_cases h : k = 0
  · subst h
    simp [mostF]
  · rw [if_neg h]
    simp only [mostF]
    omega


set_option maxRecDepth 100000 in
set_option maxHeartbeats 4000000 in
theorem liftF_any (p : Gp) (z : GLoc) (l : Int) (w : World) (hp : GpAt w p z) :
    Calls Try.prog 42 #[p.f.val z.a1 z.c1, .slice z.a2 p.bed.length z.c2, .slice z.a3 p.run.length z.c3, .int .i64 l] w fun e w' => e = .returned (pairV (liftR p l)) ∧ Below w.heap.size w w' := by
  have HX := Lib.hid (liftR_gapped p l)
  obtain ⟨a, ha⟩ : ∃ a, inB l (-1000000000) 1000000000 = a := ⟨_, rfl⟩
  rw [ha] at HX
  have HA : Hid (∀ W : World, Calls Try.prog 70 #[.int .i64 l, .int .i64 (-1000000000), .int .i64 1000000000] W fun e w' => e = .returned (.bool a) ∧ W = w') := fun W => by rw [← ha]; exact rwith_any _ _ _ W
  have X : Bk (w.alloc (.cells (facC p z) 24)) w.heap.size 24 (facC p z) := bk_last rfl
  have hB : Below w.heap.size w (w.alloc (.cells (facC p z) 24)) := (Below.refl _ _).alloc (Nat.le_refl _) _
  have HGp : Hid (∀ W, Below w.heap.size w W → Calls Try.prog 88 #[.agg (facC p z), .slice z.a2 p.bed.length z.c2, .slice z.a3 p.run.length z.c3, .bool a] W fun e w' => e = .returned (.int .i64 (gappedE p a)) ∧ Below W.heap.size W w') := fun W h => rgapped_any p z _ W (hp.below h)
  have HCl : Hid (∀ W, Below w.heap.size w W → p.ok = true → ((0 : Int) ≤ 0 ∧ (0 : Int) ≤ 1000000000) → Calls Try.prog 92 #[.agg (facC p z), .slice z.a2 p.bed.length z.c2, .slice z.a3 p.run.length z.c3, .int .i64 0] W fun e w' => ∃ v, e = .returned v ∧ w'.ownsRow W.heap.size 3 1 v p.bed.length (intCells ((List.range p.bed.length).map fun c => 0 - topV p c)) ∧ Below W.heap.size W w') := fun W h h1 h2 => rclosest_any p z 0 W (hp.below h) h1 h2
  clear ha
  unfold facC at *
  unfold Fac.val pairV
  go_enter Try.func42, Try.ntmps42
  go_upto_region 1 with fail
  generalize w.alloc (.cells _ 24) = V at *
  have x0 := X.cell 0
  have x1 := X.cell 1
  have x2 := X.cell 2
  have x3 := X.cell 3
  simp at x0 x1 x2 x3
  have KG : Hid (∀ x : Ext V, Calls Try.prog 88 #[.agg #[.int .i64 p.f.eye, .int .i64 p.f.rings, .int .i64 p.f.sec, .slice z.a1 p.f.kinds.length z.c1], .slice z.a2 p.bed.length z.c2, .slice z.a3 p.run.length z.c3, .bool a] x.w fun e w' => e = .returned (.int .i64 (gappedE p a)) ∧ Below x.w.heap.size x.w w') := fun x => HGp.out x.w (hB.trans (x.bel.mono hB.size))
  have KA : Hid (∀ x : Ext V, Calls Try.prog 70 #[.int .i64 l, .int .i64 (-1000000000), .int .i64 1000000000] x.w fun e w' => e = .returned (.bool a) ∧ x.w = w') := fun x => HA.out x.w
  clear HGp HA
  refine wp_region_ext (by kernel_rfl) (by kernel_rfl) ?_
  have Y0 := fun x : Ext V => keepc x.bel x0
  have Y1 := fun x : Ext V => keepc x.bel x1
  have Y2 := fun x : Ext V => keepc x.bel x2
  have Y3 := fun x : Ext V => keepc x.bel x3
  clear x0 x1 x2 x3
  obtain ⟨E, hE⟩ : ∃ E, gappedE p a = E := ⟨_, rfl⟩
  rw [hE] at KG HX
  clear hE
  repeat (go_big_quiet_step (fail))
  go_big_quiet_step ((go_at_call 70; exact ext_same (KA.out _)))
  repeat (go_big_quiet_step (fail))
  go_big_quiet_step ((go_at_call 88; exact ext_of (KG.out _)))
  repeat (go_big_quiet_step (fail))
  refine wpQuiet_nil ?_
  rintro _ ⟨y, rfl⟩
  clear Y0 Y1 Y2 Y3 KA KG
  have hb2 := y.bel
  generalize y.w = w2 at hb2 ⊢
  have hB2 := hB.trans (hb2.mono hB.size)
  have X2 := X.keep hb2
  have x0 := X2.cell 0
  have x1 := X2.cell 1
  have x2 := X2.cell 2
  have x3 := X2.cell 3
  simp at x0 x1 x2 x3
  by_cases he : E = 0
  · obtain ⟨g1, g2, g4⟩ := HX.out.2 he
    have HR := Lib.hid g4
    have HC := Lib.hid (HCl.out w2 hB2 g1 ⟨by omega, by omega⟩)
    have hpos := gp_pos g1
    have HT : Hid (∀ k, k < p.bed.length → -200000 ≤ topV p k ∧ topV p k ≤ 200000) := fun k hk => top_bound g1 (by have := (gp_ok g1).2.1; omega)
    have HF : Hid (liftK p l p.bed.length = max 0 (l + mostF (topV p) p.bed.length)) := by
      refine Lib.hid ?_
      unfold liftK
      rw [if_neg (by omega)]
    subst he
    clear HX HCl g1 g4
    go_wp2_with fail
    refine (HC.out).mono ?_
    rintro e w3 ⟨v, rfl, ho, hb3⟩
    obtain ⟨A3, c3, rfl, _, hr3, _⟩ := own_form ho
    have hB3 := hB2.trans (hb3.mono hB2.size)
    clear ho hb3
    go_upto_region 7 with fail
    go_loopw [12, 13] (fun out i wr => ∃ k : Nat, k ≤ p.bed.length ∧ i = .int .i64 k ∧ out = .int .i64 (liftK p l k) ∧ (0 ≤ liftK p l k ∧ liftK p l k ≤ 2000000000) ∧ w3 = wr) (fun _ i _ => p.bed.length - (intOf i).toNat)
    case atStart => exact ⟨0, Nat.zero_le _, rfl, rfl, by simp [liftK], rfl⟩
    case round =>
      obtain ⟨k, hk, rfl, rfl, hbd, rfl⟩ := hrel
      by_cases hlt : k < p.bed.length
      · have hkI : (k : Int) < p.bed.length := by omega
        obtain ⟨b3, o3, rfl, hb3', hc3⟩ := hr3.intD (by simpa using (by omega : 0 < p.bed.length))
        have d3 := hc3 k (by simpa using hlt)
        rw [map_getD _ hlt] at d3
        have ht := HT.out k hlt
        have HS := Lib.hid (liftK_succ p l k)
        clear hc3
        generalize liftK p l k = q at *
        generalize topV p k = T at *
        have hw1 := IntWalk.i64_in (0 - T) (by omega)
        have hw2 := IntWalk.i64_in (l - (0 - T)) (by omega)
        have hw3 : l - (0 - T) = l + T := by omega
        have HW3 := Lib.hid hw3
        clear hw3
        go_wp2_with fail
        go_roundw
        case rel => exact ⟨k + 1, by omega, by go_num, by first | (rw [HS.out]; done) | (rw [HS.out, ← HW3.out]; done) | (rw [HS.out, ← HW3.out]; rfl) | (rw [HS.out]; congr 1; done) | (rw [HS.out]; congr 1; simp; omega), by rw [HS.out]; omega, trivial⟩
        case measure => simp [intOf]; omega
      · obtain rfl : k = p.bed.length := by omega
        rw [HF.out]
        go_wp2_with fail
        go_ret2
        exact ⟨by first | (rw [HR.out]; done) | (rw [HR.out]; rfl), hB3⟩
  · have hne : (E == 0) = false := by simpa using he
    have HR := Lib.hid (HX.out.1 he)
    clear HX
    go_wp2_with fail
    go_ret2
    exact ⟨by rw [HR.out]; rfl, hB2⟩

set_option maxRecDepth 100000 in
set_option maxHeartbeats 4000000 in
theorem rubsF_any (p : Gp) (z : GLoc) (l : Int) (w : World) (hp : GpAt w p z) (hn0 : p.bed.length ≤ 100000) :
    Calls Try.prog 40 #[p.f.val z.a1 z.c1, .slice z.a2 p.bed.length z.c2, .slice z.a3 p.run.length z.c3, .int .i64 l] w fun e w' => ∃ v, e = .returned (.tuple #[v, .int .i64 (rubsR p l).2]) ∧ w'.ownsRow w.heap.size 3 1 v (rubsR p l).1.length (intCells (rubsR p l).1) ∧ Below w.heap.size w w' := by
  have HO : Hid (∀ W, GpAt W p z → Calls Try.prog 38 #[p.f.val z.a1 z.c1, .slice z.a2 p.bed.length z.c2, .slice z.a3 p.run.length z.c3, .int .i64 l] W fun e w' => ∃ v, e = .returned (.tuple #[v, .int .i64 (closeR p l).2]) ∧ w'.ownsRow W.heap.size 3 1 v (closeR p l).1.length (intCells (closeR p l).1) ∧ Below W.heap.size W w') := fun W h => closestF_any p z l W h
  have hcl := closeR_len (p := p) l
  have hcg := closeR_gapped p l
  have hnz : (closeR p l).2 ≠ 0 → (closeR p l).1 = [] := fun h => by rw [hcg.1] at h; exact hcg.2.1 h
  clear hcg
  have hn : (closeR p l).1.length ≤ 100000 := by omega
  unfold rubsR
  generalize closeR p l = r at *
  obtain ⟨L, E⟩ := r
  simp only at HO hn hcl hnz ⊢
  unfold Fac.val at HO ⊢
  go_enter Try.func40, Try.ntmps40
  go_wp2_with fail
  refine (HO.out _ (hp.alloc _)).mono ?_
  rintro e w1 ⟨v, rfl, ho1, hb1⟩
  have hB1 : Below w.heap.size w w1 := ((Below.refl _ _).alloc (Nat.le_refl _) _).trans (hb1.mono (by simp))
  obtain ⟨A1, c1, rfl, _, hr1, _⟩ := own_form ho1
  clear ho1 hb1
  by_cases hez : E = 0
  · subst hez
    clear hnz
    go_upto_region 6 with fail
    obtain ⟨j0, hj0, jz0, jz1, jz2⟩ := info_parts intInfo
    go_loopw [12, 13] (fun out i wr => ∃ k : Nat, k ≤ L.length ∧ i = .int .i64 k ∧ (∃ A c, out = .slice A (rubN L k).length c ∧ wr.ownsRow w1.heap.size 3 1 (.slice A (rubN L k).length c) (rubN L k).length (intCells (rubN L k))) ∧ Below w1.heap.size w1 wr) (fun _ i _ => L.length - (intOf i).toNat)
    case atStart => exact ⟨0, Nat.zero_le _, rfl, ⟨none, 0, rfl, World.ownsRow_nil _ _ _ _⟩, Below.refl _ _⟩
    case round =>
      obtain ⟨k, hk, rfl, ⟨A, c, rfl, ho⟩, hB⟩ := hrel
      by_cases hlt : k < L.length
      · have hkI : (k : Int) < L.length := by omega
        obtain ⟨b3, o3, ha3, hb3, hc3⟩ := (hr1.below hB).intD (by omega)
        have d3 := hc3 k hlt
        subst ha3
        have hy := rubN_yes (l := L) (k := k)
        have hno := rubN_no (l := L) (k := k)
        have hln := rubN_len L k
        have hzz := hB.size
        have HY := Lib.hid hy
        have HN := Lib.hid hno
        have HO2 := Lib.hid (And.intro ho hB)
        clear hc3 hy hno ho
        generalize L.getD k 0 = x at *
        generalize rubN L k = M at *
        by_cases hx : x < 1
        · have EE : Hid (M.length + 1 ≤ maxLen ∧ (M.length + 1) * 8 ≤ 140737488355328) := ⟨by unfold maxLen; omega, by omega⟩
          have hgoal : ∀ (wq : World) (v' : Value), wq.ownsRow w1.heap.size 3 1 v' (M.length + 1) (intCells M ++ [.int .i64 k]) → wq.ownsRow w1.heap.size 3 1 v' (rubN L (k + 1)).length (intCells (rubN L (k + 1))) := fun wq v' h => by
            rw [HY.out hx]
            simpa [intCells] using h
          have HGO := Lib.hid hgoal
          clear hgoal HN HY
          go_wp2_with (at_builtin; refine (wpList_append_own_at _ rfl _ _ 22 rfl w1.heap.size 3 j0 _ 1 8 Try.underlying22 hj0 jz0 jz1 jz2 rfl (by decide) _ _ _ rfl (HO2.out.1.alloc _) ⟨wr.heap.size, 0, none⟩ 1 1 [.int .i64 k] rfl rfl (cell_one_new _ _ _) (by simp [Value.oneCell']) EE.out.1 EE.out.2 (by simp; omega) ?_); intro v' w5 hown' hg5 _ _; have hown6 := HGO.out _ _ hown'; obtain ⟨A', c', rfl, _, _, _⟩ := own_form hown6)
          have hBz := HO2.out.2.size
          go_roundw
          case rel => exact ⟨k + 1, by omega, by go_num, ⟨_, _, by first | rfl | (simp; done), hown6⟩, (HO2.out.2.alloc hBz _).grown hg5 (by simp; omega) (fun r e => by have := (HO2.out.1.lt r e).1; omega)⟩
          case measure => simp [intOf]; omega
        · have HN2 := Lib.hid (HN.out hx)
          have HY2 := HO2.out
          clear HY HN
          go_wp2_with fail
          go_roundw
          case rel => exact ⟨k + 1, by omega, by go_num, ⟨A, c, by rw [HN2.out], by rw [HN2.out]; exact HY2.1⟩, HY2.2⟩
          case measure => simp [intOf]; omega
      · obtain rfl : k = L.length := by omega
        go_wp2_with fail
        go_ret2
        exact ⟨_, rfl, own_base ho hB1.size, hB1.trans (hB.mono hB1.size)⟩
  · have hq : (E == 0) = false := by simpa using hez
    have hL := hnz hez
    subst hL
    clear hnz
    go_wp2_with fail
    go_ret2
    exact ⟨.slice none 0 0, rfl, World.ownsRow_nil _ _ _ _, hB1⟩


end Go.Proofs.Ythmngnfdfelkeaa
