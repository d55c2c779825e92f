/-
  What is proved: TruthLifts answers true.
-/
import Derived.Test.YthmngnfdfelkeaaAwake
import Derived.Test.YthmngnfdfelkeaaLiftP
namespace Go.Proofs.Ythmngnfdfelkeaa
open Go.RowKit
attribute [local go_sem ↓] max_int min_int

def standA (p : Gp) (z : GLoc) (lift turn least : Int) : Array Value := #[.slice z.a2 p.bed.length z.c2, .slice z.a3 p.run.length z.c3, .int .i64 lift, .int .i64 turn, .int .i64 least]
def facA (p : Gp) (z : GLoc) : Array Value := #[.int .i64 p.f.eye, .int .i64 p.f.rings, .int .i64 p.f.sec, .slice z.a1 p.f.kinds.length z.c1]

set_option maxRecDepth 100000 in
set_option maxHeartbeats 8000000 in
theorem lifts_law (p : Gp) (z : GLoc) (lift turn least more : Int) (w : World) (hp : GpAt w p z) (hl : -9223372036854775808 ≤ lift ∧ lift ≤ 9223372036854775807) :
    Calls Try.prog 10 #[p.f.val z.a1 z.c1, .agg (standA p z lift turn least), .int .i64 more] w fun e w' => e = .returned (.bool true) ∧ Below w.heap.size w w' := by
  obtain ⟨j0, hj0, jz0, jz1, jz2⟩ := info_parts boolInfo
  have F0 : Bk ((w.alloc (.cells (facA p z) 24)).alloc (.cells (standA p z lift turn least) 62)) w.heap.size 24 (facA p z) := (bk_last rfl).alloc _
  have S0 : Bk ((w.alloc (.cells (facA p z) 24)).alloc (.cells (standA p z lift turn least) 62)) (w.heap.size + 1) 62 (standA p z lift turn least) := bk_last (by simp)
  have hB0 : Below w.heap.size w ((w.alloc (.cells (facA p z) 24)).alloc (.cells (standA p z lift turn least) 62)) := ((Below.refl _ _).alloc (Nat.le_refl _) _).alloc (by simp) _
  have HCl : Hid (∀ l W, GpAt W p z → Calls Try.prog 37 #[.agg (facA p z), .slice z.a2 p.bed.length z.c2, .slice z.a3 p.run.length z.c3, .int .i64 l] W fun e w' => ∃ v, e = .returned (.tuple #[v, .int .i64 (closeR p l).2]) ∧ w'.ownsRow W.heap.size 3 1 v (closeR p l).1.length (intCells (closeR p l).1) ∧ Below W.heap.size W w') := fun l W h => closest_any p z l W h
  have HGa : Hid (∀ l t W, GpAt W p z → Calls Try.prog 35 #[.agg (facA p z), .slice z.a2 p.bed.length z.c2, .slice z.a3 p.run.length z.c3, .int .i64 l, .int .i64 t] W fun e w' => ∃ v, e = .returned (.tuple #[v, .int .i64 (gapsR p l t).2]) ∧ w'.ownsRow W.heap.size 3 1 v (gapsR p l t).1.length (intCells (gapsR p l t).1) ∧ Below W.heap.size W w') := fun l t W h => gapsT_any p z l t W h
  have HLi : Hid (∀ l W, GpAt W p z → Calls Try.prog 41 #[.agg (facA p z), .slice z.a2 p.bed.length z.c2, .slice z.a3 p.run.length z.c3, .int .i64 l] W fun e w' => e = .returned (pairV (liftR p l)) ∧ Below W.heap.size W w') := fun l W h => liftT_any p z l W h
  have HRu : Hid (∀ l W, GpAt W p z → p.bed.length ≤ 100000 → Calls Try.prog 39 #[.agg (facA p z), .slice z.a2 p.bed.length z.c2, .slice z.a3 p.run.length z.c3, .int .i64 l] W fun e w' => ∃ v, e = .returned (.tuple #[v, .int .i64 (rubsR p l).2]) ∧ w'.ownsRow W.heap.size 3 1 v (rubsR p l).1.length (intCells (rubsR p l).1) ∧ Below W.heap.size W w') := fun l W h h2 => rubsT_any p z l W h h2
  have n1 := hp.n1
  have n2 := hp.n2
  have n3 := hp.n3
  unfold facA standA at *
  unfold Fac.val
  unfold pairV at HLi
  go_enter Try.func10, Try.ntmps10
  go_wp2_with fail
  generalize (w.alloc (.cells _ 24)).alloc (.cells _ 62) = V at *
  refine (awake_any _).mono ?_
  rintro e w1 ⟨rfl, hb1⟩
  have F1 := F0.keep hb1
  have S1 := S0.keep hb1
  have hB1 := hB0.trans (hb1.mono hB0.size)
  clear F0 S0 hB0 hb1
  have f0 := F1.cell 0
  have f1 := F1.cell 1
  have f2 := F1.cell 2
  have f3 := F1.cell 3
  have s0 := S1.cell 0
  have s1 := S1.cell 1
  have s2 := S1.cell 2
  simp at f0 f1 f2 f3 s0 s1 s2
  by_cases m1 : (p.f.kinds.length : Int) ≤ 300
  · by_cases m2 : (p.bed.length : Int) ≤ 300
    · by_cases m3 : (p.run.length : Int) ≤ 300
      · by_cases m4 : 0 ≤ more
        · by_cases m5 : more ≤ 1000
          · go_wp2_with fail
            refine (HCl.out lift _ (hp.below hB1)).mono ?_
            rintro e w2 ⟨v, rfl, ho, hb2⟩
            have hB2 := hB1.trans (hb2.mono hB1.size)
            have F2 := F1.keep hb2
            have S2 := S1.keep hb2
            obtain ⟨A, c, rfl, _, hr, _⟩ := own_form ho
            clear F1 S1 f0 f1 f2 f3 s0 s1 s2 ho hb2 hB1
            rcases closeR_cases p lift with ⟨e1, e2, _⟩ | ⟨hok, hlb, e1⟩
            · rw [e1]
              clear e1 hr
              generalize (closeR p lift).2 = E at *
              go_wp2_with fail
              go_ret
              exact ⟨rfl, hB2⟩
            · rw [e1] at hr ⊢
              simp only [List.length_map, List.length_range] at hr ⊢
              have hpos := gp_pos hok
              have hss := (fac_ok (gp_ok hok).1)
              have hlen := (gp_ok hok).2.1
              have hp2 := hp.below hB2
              obtain ⟨b1, o1, rfl, hb1, hc1⟩ := hr.intD (by simp; omega)
              have HC1 : Hid (∀ k, k < p.bed.length → w2.cell? ⟨b1, o1 + k, none⟩ = some (.int .i64 (lift - topV p k))) := fun k hk => by
                have := hc1 k (by simpa using hk)
                rwa [map_getD _ hk] at this
              have HT : Hid (∀ k, k < p.bed.length → -200000 ≤ topV p k ∧ topV p k ≤ 200000) := fun k hk => top_bound hok (by omega)
              have HTS : Hid (∀ t : Nat, (t : Int) < p.f.sec → (∀ k, sumV p k t ≤ topV p k) ∧ gapsR p lift t = ((List.range p.bed.length).map fun c => lift - sumV p c t, 0)) := fun t ht => ⟨fun k => sum_le_top ht, gapsR_ok hok hlb ht⟩
              have HSA : Hid (∀ c, seenB p p.f.sec.toNat c = true) := fun c => seen_all hok c
              have HOK := Lib.hid hok
              have bb2 : j0.bytes * p.bed.length ≤ 281474976710656 := by rw [jz2]; omega
              have bb3 : p.bed.length ≤ maxLen := by unfold maxLen; omega
              have ss1 := hss.2.2.2.2.1
              have ss2 := hss.2.2.2.2.2.1
              obtain ⟨S, hS⟩ : ∃ S : Nat, p.f.sec = S := ⟨p.f.sec.toNat, by omega⟩
              simp only [hS] at HCl HGa HLi HRu F2
              have HSA2 : Hid (∀ c, seenB p S c = true) := by
                have e : S = p.f.sec.toNat := by omega
                rw [e]; exact HSA.out
              clear hr hc1 e1 hok HSA hss hlen
              go_wp2_with (at_make; go_loud (refine (wpList_make_full _ rfl _ _ 37 rfl w2.heap.size 4 j0 _ 1 Try.underlying37 hj0 jz0 jz1 .i64 .i64 _ _ p.bed.length rfl rfl rfl rfl bb2 bb3 (Nat.le_refl _) ?_)); intro w3 hown hgr)
              have hmade : (madeCells (Value.bool false).cells (p.bed.length * 1)).toList = boolCells (seenL p 0 0) := by
                rw [Nat.mul_one, seenL_zero]
                show (madeCells #[Value.bool false] p.bed.length).toList = _
                rw [toList_madeCells_one]
                simp [boolCells]
              rw [hmade] at hown
              have hB3 : Below w2.heap.size w2 w3 := (Below.refl _ _).grown hgr (Nat.le_refl _) (fun r e => by cases e)
              clear hmade hgr bb2 bb3
              go_loopw [11] (fun i wr => ∃ t : Nat, t ≤ S ∧ i = .int .i64 t ∧ wr.ownsRow w2.heap.size 4 1 (.slice (some ⟨w2.heap.size, 0, none⟩) p.bed.length p.bed.length) p.bed.length (boolCells (seenL p t 0)) ∧ Below w2.heap.size w2 wr) (fun i _ => S - (intOf i).toNat)
              case atStart => exact ⟨0, Nat.zero_le _, rfl, hown, hB3⟩
              case round =>
                clear hown hB3
                obtain ⟨t, ht, rfl, hown, hB⟩ := hrel
                have F3 := F2.below hB F2.lt
                have S3 := S2.below hB S2.lt
                have f0 := F3.cell 0
                have f1 := F3.cell 1
                have f2 := F3.cell 2
                have f3 := F3.cell 3
                have s0 := S3.cell 0
                have s1 := S3.cell 1
                have s2 := S3.cell 2
                simp at f0 f1 f2 f3 s0 s1 s2
                by_cases hlt : t < S
                · have hI : (t : Int) < p.f.sec := by omega
                  go_wp2_with fail
                  refine (HGa.out lift t _ (hp2.below hB)).mono ?_
                  rintro e w4 ⟨v4, rfl, ho4, hb4⟩
                  obtain ⟨hsum, hgR⟩ := HTS.out t hI
                  rw [hgR] at ho4 ⊢
                  simp only [List.length_map, List.length_range] at ho4 ⊢
                  obtain ⟨g4, cap4, cur4, rfl, hg4, X4, _, _, hx4⟩ := own_some ho4 (by omega)
                  have hB4 := hB.trans (hb4.mono hB.size)
                  have hown4 := own_keep hown hb4
                  have hgz : w2.heap.size < g4 := by have h5 : w2.heap.size < wr.heap.size := (hown.lt _ rfl).2; omega
                  have HX4 : Hid (∀ k, k < p.bed.length → cur4[k]? = some (.int .i64 (lift - sumV p k t))) := fun k hk => hx4 k _ (by simp [intCells, hk])
                  have HSU := Lib.hid hsum
                  clear hown hB ho4 hx4 hb4 hgR f0 f1 f2 f3 s0 s1 s2 F3 S3 hsum
                  go_upto_region 15 with fail
                  go_loopw [14] (fun i wr => ∃ k : Nat, k ≤ p.bed.length ∧ i = .int .i64 k ∧ wr.ownsRow w2.heap.size 4 1 (.slice (some ⟨w2.heap.size, 0, none⟩) p.bed.length p.bed.length) p.bed.length (boolCells (seenL p t k)) ∧ Below w2.heap.size w2 wr ∧ Bk wr g4 3 cur4) (fun i _ => p.bed.length - (intOf i).toNat)
                  case atStart => exact ⟨0, Nat.zero_le _, rfl, hown4, hB4, X4⟩
                  case round =>
                    clear hown4 hB4 X4
                    obtain ⟨k, hk, rfl, hown, hB, X4⟩ := hrel
                    by_cases hlt2 : k < p.bed.length
                    · have hI2 : (k : Int) < p.bed.length := by omega
                      have d1 := ((bcell hB).1 _ (o1 + k) hb1).trans (HC1.out k hlt2)
                      have d2 := (X4.cell k).trans (HX4.out k hlt2)
                      have d3 := bool_at hown (seenL_len p t k) k hlt2
                      have d4 := hown.frozenAt k
                      rw [seenL_get p t k k hlt2, if_neg (by omega)] at d3
                      have ht1 := HT.out k hlt2
                      have ht2 := HSU.out k
                      have ht3 := sum_bound (p := p) (c := k) (t := t) HOK.out (by have := (gp_ok HOK.out).2.1; omega)
                      have HSB := Lib.hid (seenB_succ p t k)
                      have HO := Lib.hid (And.intro hown (And.intro hB X4))
                      clear hown hB X4
                      obtain ⟨sb, hsb⟩ : ∃ b, seenB p t k = b := ⟨_, rfl⟩
                      obtain ⟨sb2, hsb2⟩ : ∃ b, seenB p (t + 1) k = b := ⟨_, rfl⟩
                      rw [hsb, hsb2] at HSB
                      rw [hsb] at d3
                      have HS2 := Lib.hid hsb2
                      clear hsb hsb2
                      generalize topV p k = T at *
                      generalize sumV p k t = Sm at *
                      have hno : ¬ (lift - Sm < lift - T) := by omega
                      go_upto_region 17 with fail
                      go_quiet (fail)
                      have hB5 : Below w2.heap.size w2 (wr.drewN nq) := below_drewN HO.out.2.1 _
                      have HO5 : Hid ((wr.drewN nq).ownsRow w2.heap.size 4 1 (.slice (some ⟨w2.heap.size, 0, none⟩) p.bed.length p.bed.length) p.bed.length (boolCells (seenL p t k)) ∧ Below w2.heap.size w2 (wr.drewN nq) ∧ Bk (wr.drewN nq) g4 3 cur4) := ⟨own_draw HO.out.1 _, below_drewN HO.out.2.1 _, HO.out.2.2.drewN _⟩
                      have d1' : (wr.drewN nq).cell? ⟨b1, o1 + k, none⟩ = some (.int .i64 (lift - T)) := d1
                      have d2' : (wr.drewN nq).cell? ⟨g4, k, none⟩ = some (.int .i64 (lift - Sm)) := d2
                      have d3' : (wr.drewN nq).cell? ⟨w2.heap.size, k, none⟩ = some (.bool sb) := d3
                      have d4' : (wr.drewN nq).frozen? ⟨w2.heap.size, k, none⟩ = false := d4
                      clear HO hB5 d1 d2 d3 d4
                      go_upto_region 19 with fail
                      generalize wr.drewN nq = wq at *
                      cases sb
                      · have HS3 : Hid ((lift - Sm == lift - T) = seenB p (t + 1) k) := by
                          refine Lib.hid ?_
                          rw [HS2.out, HSB.out, Bool.false_or]
                          by_cases e : Sm = T
                          · simp [e]
                          · have e2 : ¬ lift - Sm = lift - T := by omega
                            simp [e, e2]
                        refine wp_region_extmix 18 (by kernel_rfl) (by kernel_rfl) (fun _ _ d _ _ h => by cases d <;> exact h) ?_
                        simp only [List.take_succ_cons, List.take_zero, List.drop_succ_cons, List.drop_zero]
                        have D1 := fun x : Ext wq => keepc x.bel d1'
                        have D2 := fun x : Ext wq => keepc x.bel d2'
                        have D3 := fun x : Ext wq => keepc x.bel d3'
                        repeat (go_big_quiet_step (fail))
                        refine wpQuiet_nil ?_
                        rintro _ ⟨y, rfl⟩
                        have hb6 := y.bel
                        generalize y.w = w6 at hb6 ⊢
                        have ho6 := own_keep HO5.out.1 hb6
                        have hB6 := HO5.out.2.1.trans (hb6.mono HO5.out.2.1.size)
                        have hX6 := HO5.out.2.2.keep hb6
                        have d5 := bool_at ho6 (seenL_len p t k) k hlt2
                        have d6 := ho6.frozenAt k
                        have ho7 := (ho6.stored k (.bool (lift - Sm == lift - T))).1
                        rw [boolCells_set, HS3.out, seenL_set p t k hlt2, ← HS3.out] at ho7
                        have HO7 := Lib.hid ho7
                        clear D1 D2 D3 d1' d2' d3' d4' HO5 ho6 ho7 hb6
                        go_wp2_with fail
                        go_roundw
                        case rel => exact ⟨k + 1, by omega, by go_num, HO7.out, hB6.setCell (by simp <;> omega) _, hX6.far (by simp; omega) _⟩
                        case measure => simp [intOf]; omega
                      · have HS3 : Hid (true = seenB p (t + 1) k) := by
                          refine Lib.hid ?_
                          rw [HS2.out, HSB.out, Bool.true_or]
                        refine wp_region_extmix 18 (by kernel_rfl) (by kernel_rfl) (fun _ _ d _ _ h => by cases d <;> exact h) ?_
                        simp only [List.take_succ_cons, List.take_zero, List.drop_succ_cons, List.drop_zero]
                        have D1 := fun x : Ext wq => keepc x.bel d1'
                        have D2 := fun x : Ext wq => keepc x.bel d2'
                        have D3 := fun x : Ext wq => keepc x.bel d3'
                        repeat (go_big_quiet_step (fail))
                        refine wpQuiet_nil ?_
                        rintro _ ⟨y, rfl⟩
                        have hb6 := y.bel
                        generalize y.w = w6 at hb6 ⊢
                        have ho6 := own_keep HO5.out.1 hb6
                        have hB6 := HO5.out.2.1.trans (hb6.mono HO5.out.2.1.size)
                        have hX6 := HO5.out.2.2.keep hb6
                        have d5 := bool_at ho6 (seenL_len p t k) k hlt2
                        have d6 := ho6.frozenAt k
                        have ho7 := (ho6.stored k (.bool true)).1
                        rw [boolCells_set, HS3.out, seenL_set p t k hlt2, ← HS3.out] at ho7
                        have HO7 := Lib.hid ho7
                        clear D1 D2 D3 d1' d2' d3' d4' HO5 ho6 ho7 hb6
                        go_wp2_with fail
                        go_roundw
                        case rel => exact ⟨k + 1, by omega, by go_num, HO7.out, hB6.setCell (by simp <;> omega) _, hX6.far (by simp; omega) _⟩
                        case measure => simp [intOf]; omega
                    · obtain rfl : k = p.bed.length := by omega
                      rw [seenL_full] at hown
                      go_wp2_with fail
                      go_roundw
                      case rel => exact ⟨t + 1, by omega, by go_num, hown, hB⟩
                      case measure => simp [intOf]; omega
                · obtain rfl : t = S := by omega
                  obtain ⟨w5, rfl⟩ : ∃ x, x = wr := ⟨wr, rfl⟩
                  have HSL : Hid (∀ k, k < p.bed.length → w5.cell? ⟨w2.heap.size, k, none⟩ = some (.bool true)) := fun k hk => by
                    have d := bool_at hown (seenL_len p t 0) k hk
                    rwa [seenL_get p t 0 k hk, if_neg (by omega), HSA2.out] at d
                  have hBw := hB2.trans (hB.mono hB2.size)
                  have HC5 : Hid (∀ k, k < p.bed.length → w5.cell? ⟨b1, o1 + k, none⟩ = some (.int .i64 (lift - topV p k))) := fun k hk => ((bcell hB).1 _ (o1 + k) hb1).trans (HC1.out k hk)
                  have hb15 : b1 < w5.heap.size := by have := hB.size; omega
                  have hp5 := hp2.below hB
                  clear hown hB HTS HSA2 HC1 hp2 F2 S2 hb1
                  go_upto_region 21 with fail
                  go_loopw [15] (fun i wx => ∃ k : Nat, k ≤ p.bed.length ∧ i = .int .i64 k ∧ w5 = wx) (fun i _ => p.bed.length - (intOf i).toNat)
                  case atStart => exact ⟨0, Nat.zero_le _, rfl, rfl⟩
                  case round =>
                    obtain ⟨k, hk, rfl, rfl⟩ := hrel
                    by_cases hlt2 : k < p.bed.length
                    · have hI2 : (k : Int) < p.bed.length := by omega
                      have d1 := HSL.out k hlt2
                      go_wp2_with fail
                      go_roundw
                      case rel => exact ⟨k + 1, by omega, by go_num, trivial⟩
                      case measure => simp [intOf]; omega
                    · obtain rfl : k = p.bed.length := by omega
                      clear HSL
                      go_wp2_with fail
                      refine (HCl.out (lift + more) _ hp5).mono ?_
                      rintro e w6 ⟨v6, rfl, ho6, hb6⟩
                      have hW : (∀ k, k < (closeR p (lift + more)).1.length → k < p.bed.length ∧ (closeR p (lift + more)).1.getD k 0 = lift - topV p k + more) ∧ (((closeR p (lift + more)).2 == 0) = false → 1000000000 < lift + more) := by
                        rcases closeR_cases p (lift + more) with ⟨e1, e2, e3⟩ | ⟨_, _, e1⟩
                        · rw [e1]
                          refine ⟨fun k hk => by simp at hk, fun _ => ?_⟩
                          have := e3 HOK.out
                          omega
                        · rw [e1]
                          refine ⟨fun k hk => ?_, fun h => by simp at h⟩
                          have hk2 : k < p.bed.length := by simpa using hk
                          refine ⟨hk2, ?_⟩
                          rw [map_getD _ hk2]
                          omega
                      have hll := closeR_len (p := p) (lift + more)
                      have HW := Lib.hid hW
                      have hB6 := hBw.trans (hb6.mono hBw.size)
                      obtain ⟨A6, c6, rfl, _, hr6, _⟩ := own_form ho6
                      have HC6 : Hid (∀ k, k < p.bed.length → w6.cell? ⟨b1, o1 + k, none⟩ = some (.int .i64 (lift - topV p k))) := fun k hk => ((bcell hb6).1 _ (o1 + k) hb15).trans (HC5.out k hk)
                      have hp6 := hp5.below hb6
                      have F6 := F3.keep hb6
                      have S6 := S3.keep hb6
                      clear hW ho6 hb6 HC5 hBw hp5 hb15 f0 f1 f2 f3 s0 s1 s2 F3 S3
                      generalize (closeR p (lift + more)).1 = L6 at *
                      generalize (closeR p (lift + more)).2 = E6 at *
                      go_upto_region 27 with fail
                      go_loopw [18] (fun i wx => ∃ k m : Nat, k ≤ L6.length ∧ i = .int .i64 k ∧ wx = w6.drewN m) (fun i _ => L6.length - (intOf i).toNat)
                      case atStart => exact ⟨0, 0, Nat.zero_le _, rfl, rfl⟩
                      case round =>
                        obtain ⟨k, m, hk, rfl, rfl⟩ := hrel
                        by_cases hlt2 : k < L6.length
                        · have hI2 : (k : Int) < L6.length := by omega
                          obtain ⟨q1, q2⟩ := HW.out.1 k hlt2
                          obtain ⟨b7, o7, rfl, hb7, hc7⟩ := hr6.intD (by omega)
                          have d1 := HC6.out k q1
                          have d2 := hc7 k hlt2
                          rw [q2] at d2
                          have q3 := HT.out k q1
                          have q4 : (k : Int) < p.bed.length := by omega
                          clear hc7 q2
                          generalize topV p k = T at *
                          have q5 := IntWalk.i64_in (lift - T + more) (by omega)
                          go_upto_region 29 with fail
                          go_quiet (fail)
                          go_wp2_with fail
                          go_roundw
                          case rel => exact ⟨k + 1, m + nq, by omega, by go_num, rfl⟩
                          case measure => simp [intOf]; omega
                        · obtain rfl : k = L6.length := by omega
                          have hw7 : w6.drewN m = w6.drewN m := rfl
                          have hp7 : GpAt (w6.drewN m) p z := hp6.below (below_drewN (Below.refl _ _) _)
                          have hB7 := below_drewN hB6 m
                          have F7 := F6.drewN m
                          have S7 := S6.drewN m
                          clear HC6 HT hr6 hw7 F6 S6
                          generalize w6.drewN m = w7 at *
                          have HL1 := HLi.out 1 w7 hp7
                          rw [liftR_one HOK.out] at HL1
                          have hlow := lowL_bound HOK.out
                          have HF := Lib.hid (rubs_free HOK.out)
                          have HSm := Lib.hid (rubs_some HOK.out)
                          have HL2 := Lib.hid HL1
                          have HR1 := HRu.out (lowL p)
                          have HR2 := HRu.out (lowL p - 1)
                          rw [HF.out] at HR1
                          have HR1' := Lib.hid HR1
                          have HR2' := Lib.hid HR2
                          clear HL1 HR1 HR2 HF
                          generalize rubsR p (lowL p - 1) = RR at *
                          generalize lowL p = q at *
                          have hn1 : p.bed.length ≤ 100000 := by omega
                          have f0 := F7.cell 0
                          have f1 := F7.cell 1
                          have f2 := F7.cell 2
                          have f3 := F7.cell 3
                          have s0 := S7.cell 0
                          have s1 := S7.cell 1
                          have s2 := S7.cell 2
                          simp at f0 f1 f2 f3 s0 s1 s2
                          go_wp2_with fail
                          refine (HL2.out).mono ?_
                          rintro e w8 ⟨rfl, hb8⟩
                          have hB8 := hB7.trans (hb8.mono hB7.size)
                          have hp8 := hp7.below hb8
                          have F8 := F7.keep hb8
                          have S8 := S7.keep hb8
                          clear f0 f1 f2 f3 s0 s1 s2 F7 S7 hB7 hp7 hb8
                          have f0 := F8.cell 0
                          have f1 := F8.cell 1
                          have f2 := F8.cell 2
                          have f3 := F8.cell 3
                          have s0 := S8.cell 0
                          have s1 := S8.cell 1
                          have s2 := S8.cell 2
                          simp at f0 f1 f2 f3 s0 s1 s2
                          have hq1 : ¬ q < 0 := by omega
                          have hq2 : q ≤ 300000 := by omega
                          obtain ⟨eb, heb⟩ : ∃ b, (E6 == 0) = b := ⟨_, rfl⟩
                          have HEB := Lib.hid (HW.out.2)
                          rw [heb] at HEB
                          cases eb
                          · have hbig := HEB.out rfl
                            have hbig2 : ¬ lift + more ≤ 1000000000 := by omega
                            have hne6 : (E6 != 0) = true := by simp at heb ⊢; exact heb
                            clear heb HEB
                            have hbig3 := IntWalk.i64_in (lift + more) (by omega)
                            go_wp2_with fail
                            refine (HR1'.out _ hp8 hn1).mono ?_
                            rintro e w9 ⟨v9, rfl, ho9, hb9⟩
                            have hB9 := hB8.trans (hb9.mono hB8.size)
                            have hp9 := hp8.below hb9
                            have F9 := F8.keep hb9
                            have S9 := S8.keep hb9
                            obtain ⟨A9, c9, rfl, _, _, _⟩ := own_form ho9
                            clear f0 f1 f2 f3 s0 s1 s2 F8 S8 hB8 hp8 hb9 ho9
                            have f0 := F9.cell 0
                            have f1 := F9.cell 1
                            have f2 := F9.cell 2
                            have f3 := F9.cell 3
                            have s0 := S9.cell 0
                            have s1 := S9.cell 1
                            have s2 := S9.cell 2
                            simp at f0 f1 f2 f3 s0 s1 s2
                            by_cases hq0 : q = 0
                            · subst hq0
                              go_wp2_with fail
                              go_ret
                              exact ⟨rfl, hB9⟩
                            · have hq3 : (q == 0) = false := by simpa using hq0
                              go_wp2_with fail
                              refine (HR2'.out _ hp9 hn1).mono ?_
                              rintro e w10 ⟨v10, rfl, ho10, hb10⟩
                              have hB10 := hB9.trans (hb10.mono hB9.size)
                              obtain ⟨A10, c10, rfl, _, _, _⟩ := own_form ho10
                              obtain ⟨r1, r2⟩ := HSm.out hq0
                              have r2' : (0 : Int) < RR.1.length := by omega
                              rw [r1]
                              go_wp2_with fail
                              go_ret
                              exact ⟨rfl, hB10⟩
                          · have he0 : E6 = 0 := by simpa using heb
                            subst he0
                            clear HEB heb
                            go_wp2_with fail
                            refine (HR1'.out _ hp8 hn1).mono ?_
                            rintro e w9 ⟨v9, rfl, ho9, hb9⟩
                            have hB9 := hB8.trans (hb9.mono hB8.size)
                            have hp9 := hp8.below hb9
                            have F9 := F8.keep hb9
                            have S9 := S8.keep hb9
                            obtain ⟨A9, c9, rfl, _, _, _⟩ := own_form ho9
                            clear f0 f1 f2 f3 s0 s1 s2 F8 S8 hB8 hp8 hb9 ho9
                            have f0 := F9.cell 0
                            have f1 := F9.cell 1
                            have f2 := F9.cell 2
                            have f3 := F9.cell 3
                            have s0 := S9.cell 0
                            have s1 := S9.cell 1
                            have s2 := S9.cell 2
                            simp at f0 f1 f2 f3 s0 s1 s2
                            by_cases hq0 : q = 0
                            · subst hq0
                              go_wp2_with fail
                              go_ret
                              exact ⟨rfl, hB9⟩
                            · have hq3 : (q == 0) = false := by simpa using hq0
                              go_wp2_with fail
                              refine (HR2'.out _ hp9 hn1).mono ?_
                              rintro e w10 ⟨v10, rfl, ho10, hb10⟩
                              have hB10 := hB9.trans (hb10.mono hB9.size)
                              obtain ⟨A10, c10, rfl, _, _, _⟩ := own_form ho10
                              obtain ⟨r1, r2⟩ := HSm.out hq0
                              have r2' : (0 : Int) < RR.1.length := by omega
                              rw [r1]
                              go_wp2_with fail
                              go_ret
                              exact ⟨rfl, hB10⟩
          · have m5' : 1000 < more := by omega
            go_wp2_with fail
            go_ret
            exact ⟨rfl, hB1⟩
        · have m4' : more < 0 := by omega
          go_wp2_with fail
          go_ret
          exact ⟨rfl, hB1⟩
      · have m3' : 300 < (p.run.length : Int) := by omega
        go_wp2_with fail
        go_ret
        exact ⟨rfl, hB1⟩
    · have m2' : 300 < (p.bed.length : Int) := by omega
      go_wp2_with fail
      go_ret
      exact ⟨rfl, hB1⟩
  · have m1' : 300 < (p.f.kinds.length : Int) := by omega
    go_wp2_with fail
    go_ret
    exact ⟨rfl, hB1⟩

end Go.Proofs.Ythmngnfdfelkeaa
