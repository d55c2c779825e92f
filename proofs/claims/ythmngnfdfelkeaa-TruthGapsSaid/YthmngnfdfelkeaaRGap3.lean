/-
  What is proved: the contract of the reference's closest.
-/
import Derived.Test.YthmngnfdfelkeaaRGap2
namespace Go.Proofs.Ythmngnfdfelkeaa
open Go.RowKit
attribute [local go_sem ↓] max_int min_int

set_option maxRecDepth 100000 in
set_option maxHeartbeats 8000000 in
theorem rclosest_any (p : Gp) (z : GLoc) (l : Int) (w : World) (hp : GpAt w p z) (hok : p.ok = true) (hl : 0 ≤ l ∧ l ≤ 1000000000) :
    Calls Try.prog 92 #[p.f.val z.a1 z.c1, .slice z.a2 p.bed.length z.c2, .slice z.a3 p.run.length z.c3, .int .i64 l] w fun e w' => ∃ v, e = .returned v ∧ w'.ownsRow w.heap.size 3 1 v p.bed.length (intCells ((List.range p.bed.length).map fun c => l - topV p c)) ∧ Below w.heap.size w w' := by
  obtain ⟨hn1, hn2⟩ := gp_pos hok
  have hss := fac_ok (gp_ok hok).1
  obtain ⟨S, hS⟩ : ∃ S : Nat, p.f.sec = S := ⟨p.f.sec.toNat, by omega⟩
  have hS2 : 2 ≤ S ∧ S ≤ 96 := by omega
  have hfin : nearL p l S 0 = (List.range p.bed.length).map fun c => l - topV p c := by
    unfold nearL topV
    apply List.map_congr_left
    intro c _
    rw [if_neg (by omega), hS, Int.toNat_natCast]
  have HFI := Lib.hid hfin
  have HGa : Hid (∀ W (k : Nat), Below w.heap.size w W → k < S → Calls Try.prog 89 #[.agg #[.int .i64 p.f.eye, .int .i64 p.f.rings, .int .i64 S, .slice z.a1 p.f.kinds.length z.c1], .slice z.a2 p.bed.length z.c2, .slice z.a3 p.run.length z.c3, .int .i64 l, .int .i64 k] W fun e w' => ∃ v, e = .returned v ∧ w'.ownsRow W.heap.size 3 1 v p.bed.length (intCells (gapL p l k p.bed.length)) ∧ Below W.heap.size W w') := fun W k h h3 => by
    rw [← hS]
    exact rgaps_any p z l k W (hp.below h) hok hl (by omega)
  have HSB : Hid (∀ c t, c < p.bed.length → -200000 ≤ sumV p c t ∧ sumV p c t ≤ 200000) := fun c t hc => sum_bound hok (by have := (gp_ok hok).2.1; omega)
  have HMB : Hid (∀ c t, c < p.bed.length → 1 ≤ t → -200000 ≤ mostF (fun u => sumV p c u) t ∧ mostF (fun u => sumV p c u) t ≤ 200000) := fun c t hc ht => most_bound (F := fun u => sumV p c u) t (fun u _ => HSB.out c u hc) ht
  unfold Fac.val
  rw [hS]
  have X : Bk (w.alloc (.cells #[.int .i64 p.f.eye, .int .i64 p.f.rings, .int .i64 S, .slice z.a1 p.f.kinds.length z.c1] 24)) w.heap.size 24 #[.int .i64 p.f.eye, .int .i64 p.f.rings, .int .i64 S, .slice z.a1 p.f.kinds.length z.c1] := bk_last rfl
  have hB : Below w.heap.size w (w.alloc (.cells #[.int .i64 p.f.eye, .int .i64 p.f.rings, .int .i64 S, .slice z.a1 p.f.kinds.length z.c1] 24)) := (Below.refl _ _).alloc (Nat.le_refl _) _
  clear hS hss hfin hok
  go_enter Try.func92, Try.ntmps92
  go_wp2_with fail
  generalize w.alloc (.cells _ 24) = V at *
  refine (HGa.out _ 0 hB (by omega)).mono ?_
  rintro e w1 ⟨v1, rfl, ho1, hb1⟩
  obtain ⟨g, cap, cur, rfl, hg, _, _, _, _⟩ := own_some ho1 (by omega)
  rw [← nearL_one] at ho1
  have hVz := hB.size
  have hxl := X.lt
  go_upto_region 3 with fail
  go_loopw [10] (fun i wr => ∃ t : Nat, 1 ≤ t ∧ t ≤ S ∧ i = .int .i64 t ∧ wr.ownsRow V.heap.size 3 1 (.slice (some ⟨g, 0, none⟩) p.bed.length cap) p.bed.length (intCells (nearL p l t 0)) ∧ Below V.heap.size V wr) (fun i _ => S - (intOf i).toNat)
  case atStart => exact ⟨1, Nat.le_refl _, by omega, rfl, ho1, hb1⟩
  case round =>
    clear ho1 hb1
    obtain ⟨t, ht1, ht, rfl, hown, hBr⟩ := hrel
    have X2 := X.keep hBr
    have x0 := X2.cell 0
    have x1 := X2.cell 1
    have x2 := X2.cell 2
    have x3 := X2.cell 3
    simp at x0 x1 x2 x3
    have hBw := hB.trans (hBr.mono hVz)
    by_cases hlt : t < S
    · have hI : (t : Int) < S := by omega
      go_wp2_with fail
      refine (HGa.out _ t hBw hlt).mono ?_
      rintro e w4 ⟨v4, rfl, ho4, hb4⟩
      obtain ⟨g4, cap4, cur4, rfl, hg4, X4, _, _, hx4⟩ := own_some ho4 (by omega)
      have hB4 := hBr.trans (hb4.mono hBr.size)
      have hown4 := own_keep hown hb4
      have hgz : g < g4 := by have h5 : g < wr.heap.size := (hown.lt _ rfl).2; omega
      have HX4 : Hid (∀ k, k < p.bed.length → cur4[k]? = some (.int .i64 (l - sumV p k t))) := fun k hk => hx4 k _ (by simp [intCells, gapL, hk])
      clear hown hBr ho4 hx4 hb4 x0 x1 x2 x3 X2 hBw
      go_upto_region 7 with fail
      go_loopw [12] (fun i wr => ∃ k : Nat, k ≤ p.bed.length ∧ i = .int .i64 k ∧ wr.ownsRow V.heap.size 3 1 (.slice (some ⟨g, 0, none⟩) p.bed.length cap) p.bed.length (intCells (nearL p l t k)) ∧ Below V.heap.size V wr ∧ Bk wr g4 3 cur4) (fun i _ => p.bed.length - (intOf i).toNat)
      case atStart => exact ⟨0, Nat.zero_le _, rfl, hown4, hB4, X4⟩
      case round =>
        clear hown4 hB4 X4
        obtain ⟨k, hk, rfl, hown, hB, X4⟩ := hrel
        by_cases hlt2 : k < p.bed.length
        · have hI2 : (k : Int) < p.bed.length := by omega
          have d2 := (X4.cell k).trans (HX4.out k hlt2)
          have hcx : (intCells (nearL p l t k))[k]? = some (.int .i64 (l - mostF (fun u => sumV p k u) t)) := by
            have h := nearL_get p l t k k hlt2
            rw [if_neg (by omega)] at h
            have hl3 : k < (nearL p l t k).length := by rw [nearL_len]; exact hlt2
            rw [getD_get _ _ hl3] at h
            simp [intCells, hl3, h]
          have d3 := (hown.cellAt k (by omega)).trans hcx
          have ht2 := HSB.out k t hlt2
          have ht3 := HMB.out k t hlt2 ht1
          have HNX : Hid (mostF (fun u => sumV p k u) (t + 1) = max (mostF (fun u => sumV p k u) t) (sumV p k t)) := rfl
          have HO := Lib.hid (And.intro hown (And.intro hB X4))
          clear hown hB X4 hcx
          generalize mostF (fun u => sumV p k u) t = M at *
          generalize sumV p k t = y at *
          go_upto_region 9 with fail
          refine wp_region_extmix 12 (by kernel_rfl) (by kernel_rfl) (fun _ _ d _ _ h => by cases d <;> exact h) ?_
          simp only [List.take_succ_cons, List.take_zero, List.drop_succ_cons, List.drop_zero]
          have D2 := fun x : Ext wr => keepc x.bel d2
          have D3 := fun x : Ext wr => keepc x.bel d3
          clear d2 d3
          repeat (go_big_quiet_step (fail))
          refine wpQuiet_nil ?_
          rintro _ ⟨y', rfl⟩
          have hb6 := y'.bel
          generalize y'.w = w6 at hb6 ⊢
          have ho6 := own_keep HO.out.1 hb6
          have hB6 := HO.out.2.1.trans (hb6.mono HO.out.2.1.size)
          have hX6 := HO.out.2.2.keep hb6
          have hcx : ∃ v0, (intCells (nearL p l t k))[k]? = some v0 := ⟨_, List.getElem?_eq_getElem (by rw [intCells_len, nearL_len]; exact hlt2)⟩
          obtain ⟨v0, hv0⟩ := hcx
          have d5 := (ho6.cellAt k (by omega)).trans hv0
          have d6 := ho6.frozenAt k
          have ho7 := (ho6.stored k (.int .i64 (min (l - M) (l - y)))).1
          rw [show min (l - M) (l - y) = l - mostF (fun u => sumV p k u) (t + 1) by rw [HNX.out]; omega] at ho7
          rw [show (intCells (nearL p l t k)).set k (.int .i64 (l - mostF (fun u => sumV p k u) (t + 1))) = intCells (nearL p l t (k + 1)) by rw [← nearL_set p l t k hlt2]; simp [intCells, List.map_set]] at ho7
          rw [show l - mostF (fun u => sumV p k u) (t + 1) = min (l - M) (l - y) by rw [HNX.out]; omega] at ho7
          have HO7 := Lib.hid ho7
          clear D2 D3 HO ho6 ho7 hb6 hv0
          go_wp2_with fail
          go_roundw
          case rel => exact ⟨k + 1, by omega, by go_num, HO7.out, hB6.setCell (by simp <;> omega) _, hX6.far (by simp; omega) _⟩
          case measure => simp [intOf]; omega
        · obtain rfl : k = p.bed.length := by omega
          rw [nearL_full] at hown
          go_wp2_with fail
          go_roundw
          case rel => exact ⟨t + 1, by omega, by omega, by go_num, hown, hB⟩
          case measure => simp [intOf]; omega
    · obtain rfl : t = S := by omega
      rw [HFI.out] at hown
      go_wp2_with fail
      go_ret
      exact ⟨_, rfl, own_base hown hVz, hBw⟩

end Go.Proofs.Ythmngnfdfelkeaa
