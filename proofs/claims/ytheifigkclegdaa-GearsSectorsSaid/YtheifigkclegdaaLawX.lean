/-
  What is proved: the walk of GearsSectors.
-/
import Derived.Test.YtheifigkclegdaaShort
import Derived.Test.YtheifigkclegdaaSecM
namespace Go.Proofs.Ytheifigkclegdaa
open Go.RowKit
attribute [local go_sem] Res.val whereV

theorem own_draw {w : World} {base : Nat} {e : TypeId} {size : Nat} {v : Value} {n : Nat} {xs : List Value} (h : w.ownsRow base e size v n xs) (k : Nat) : (w.drewN k).ownsRow base e size v n xs := h

set_option maxRecDepth 100000 in
set_option maxHeartbeats 16000000 in
theorem sectors_core (A : Option Addr) (c : Nat) (L : List Mesh) (s : Nat) (t lo hi lo2 hi2 n f : Int) (ys : List Int) (w : World) (hrow : RowAt w A (meshCells L)) (hs : L.length ≤ 100) (hs2 : 2 ≤ s) (hs96 : s ≤ 96) (ht0 : 0 ≤ t) (ht1 : t ≤ 1000000)
    (hys : 0 < ys.length) (hyl : ys.length ≤ 96) (hrange : ∀ x ∈ ys, 0 ≤ x ∧ x < s) (hsort : ∀ j (h : j + 1 < ys.length), ys[j] < ys[j + 1]) (hlh : lo ≤ hi) (hlo : -1000000000000 ≤ lo) (hhi : hi ≤ 96000000000000000)
    (hmem : ∀ x : Int, lo ≤ x → x ≤ hi → x % s ∈ ys) (hf : f = 0 ∨ (f = 2 ∧ n = 0))
    (hsh : f = 0 → n ≤ 1000000 - t → lo < lo2 ∧ hi2 - hi = lo2 - lo ∧ Int.tmod (lo2 - lo) s = 0 ∧ lo2 ≤ 200000000000000000 ∧ hi2 ≤ 200000000000000000)
    (hn1 : f = 0 → 1 ≤ n)
    (h1 : Hid (RetR A L 23 #[.agg #[.slice A L.length c], .int .i64 s, .int .i64 t] (whereV ((lo, hi), 0))))
    (h2 : Hid (∀ W : World, RowAt W A (meshCells L) → Calls Try.prog 46 #[.agg #[.slice A L.length c], .int .i64 s] W fun e w' => ∃ v, e = .returned (.tuple #[v, .int .i64 0]) ∧ w'.ownsRow W.heap.size 3 1 v ys.length (intCells ys) ∧ Below W.heap.size W w'))
    (h3 : Hid (RetR A L 20 #[.agg #[.slice A L.length c]] (pairV (n, f))))
    (h4 : Hid (f = 0 → n ≤ 1000000 - t → RetR A L 23 #[.agg #[.slice A L.length c], .int .i64 s, .int .i64 (t + n)] (whereV ((lo2, hi2), 0)))) :
    Calls Try.prog 12 #[.agg #[.slice A L.length c], .int .i64 s, .int .i64 t] w fun e w' => e = .returned (.bool true) ∧ Below w.heap.size w w' := by
  have E38 := eq38
  have HP := Lib.hid (And.intro hrange (And.intro hsort (And.intro hmem hsh)))
  clear hrange hsort hmem hsh
  go_enter Try.func12, Try.ntmps12
  go_wp2_with fail
  refine (awake_any _).mono ?_
  rintro e' w0 ⟨rfl, hb0⟩
  have X : Bk w0 w.heap.size 24 #[.slice A L.length c] := (bk_last rfl).keep hb0
  replace hrow := (hrow.alloc _).below hb0
  have hB0 : Below w.heap.size w w0 := ((Below.refl w.heap.size w).alloc (Nat.le_refl _) _).trans (hb0.mono (by simp <;> omega))
  clear hb0
  have Xc0 := X.cell 0
  simp at Xc0
  have Xl := X.lt
  go_wp2_with fail
  refine (short_true A L.length c _ hs).mono ?_
  rintro e' w1 ⟨rfl, hb1⟩
  replace X := X.keep hb1
  replace hrow := hrow.below hb1
  have hB1 := hB0.trans (hb1.mono hB0.size)
  clear Xc0 Xl
  clear hb1 hB0
  have Xc0 := X.cell 0
  simp at Xc0
  have Xl := X.lt
  go_wp2_with fail
  refine (h1.out _ hrow).mono ?_
  rintro e' w2 ⟨rfl, hb2⟩
  replace X := X.keep hb2
  replace hrow := hrow.below hb2
  have hB2 := hB1.trans (hb2.mono hB1.size)
  clear Xc0 Xl
  clear hb2 hB1
  have hZ2 := hB2.size
  have Xc0 := X.cell 0
  simp at Xc0
  have Xl := X.lt
  unfold whereV
  go_wp2_with fail
  refine (h2.out _ (hrow.alloc _)).mono ?_
  rintro e' w3 ⟨v1, rfl, ho1, hb3⟩
  have S : Bk w3 w2.heap.size 38 #[.int .i64 lo, .int .i64 hi] := (bk_last rfl).keep hb3
  replace X := (X.alloc _).keep hb3
  replace hrow := (hrow.alloc _).below hb3
  have hB3 : Below w.heap.size w w3 := (hB2.alloc hB2.size _).trans (hb3.mono (by have := hB2.size; simp; omega))
  obtain ⟨g1, c1, rfl, hg1, _⟩ := own_row ho1 hys
  clear Xc0 Xl
  clear hb3 hB2
  have yz : ((ys.length : Int) == 0) = false := by rw [beq_eq_false_iff_ne]; omega
  have hZ := hB3.size
  have hgw : w.heap.size + 1 ≤ g1 := by
    have h := hg1
    rw [World.size_alloc] at h
    omega
  go_wp2_with fail
  go_loopw [12] (fun i wr => ∃ k : Nat, k ≤ ys.length ∧ i = .int .i64 k ∧ Bk wr w.heap.size 24 #[.slice A L.length c] ∧ Bk wr w2.heap.size 38 #[.int .i64 lo, .int .i64 hi] ∧ wr.ownsRow (w2.heap.size + 1) 3 1 (.slice (some ⟨g1, 0, none⟩) ys.length c1) ys.length (intCells ys) ∧ RowAt wr A (meshCells L) ∧ Below w.heap.size w wr) (fun i _ => ys.length - (intOf i).toNat)
  case atStart => exact ⟨0, Nat.zero_le _, rfl, X, S, by simpa using ho1, hrow, hB3⟩
  case round =>
    clear X S ho1 hrow hB3
    obtain ⟨k, hk, rfl, X, S, ho, hrow, hB⟩ := hrel
    by_cases hlk : k < ys.length
    · have hkI : (k : Int) < ys.length := by omega
      have cell : ∀ j (hj : j < ys.length), wr.cell? ⟨g1, j, none⟩ = some (.int .i64 ys[j]) := fun j hj => by
        rw [ho.cellAt j (by omega)]
        simp [intCells, hj]
      have hr := HP.out.1 ys[k] (List.getElem_mem hlk)
      have c0 := cell k hlk
      rcases Nat.eq_zero_or_pos k with h0 | h0
      · subst h0
        generalize ys[0] = y at *
        clear cell
        have d1 : decide (y < 0) = false := by simp; omega
        have d2 : decide ((s : Int) ≤ y) = false := by simp; omega
        go_wp2_with fail
        go_quiet (fail)
        go_wp2_with fail
        go_roundw
        case rel => exact ⟨1, by omega, rfl, X.drewN _, S.drewN _, own_draw ho _, hrow.drewN _, below_drewN hB _⟩
        case measure => simp [intOf]; omega
      · obtain ⟨j, rfl⟩ : ∃ j, k = j + 1 := ⟨k - 1, by omega⟩
        have hso := HP.out.2.1 j hlk
        have c1 := cell j (by omega)
        have hjI : (j : Int) < ys.length := by omega
        have hj1 : (j : Int) + 1 < ys.length := by omega
        generalize ys[j + 1] = y at *
        generalize ys[j] = z at *
        clear cell
        have hcast : (((j + 1 : Nat) : Int)) = (j : Int) + 1 := by simp
        rw [hcast]
        have d1 : decide (y < 0) = false := by simp; omega
        have d2 : decide ((s : Int) ≤ y) = false := by simp; omega
        have d3 : decide (y ≤ z) = false := by simp; omega
        go_wp2_with fail
        go_quiet (fail)
        go_wp2_with fail
        go_roundw
        case rel => exact ⟨j + 1 + 1, by omega, by simp, X.drewN _, S.drewN _, own_draw ho _, hrow.drewN _, below_drewN hB _⟩
        case measure => simp [intOf]; omega
    · have : k = ys.length := by omega
      subst this
      obtain ⟨_, _, e1, _, rl, _⟩ := own_form ho
      injection e1 with e1 _ e1'
      subst e1 e1'
      have hsz : ((s : Int) == 0) = false := by simp; omega
      have hs1 : (1 : Int) ≤ s := by omega
      go_wp2_with fail
      go_loop [13] (fun i => ∃ k : Nat, k ≤ s ∧ i = .int .i64 k) (fun i => s - (intOf i).toNat)
      case atStart => exact ⟨0, Nat.zero_le _, rfl⟩
      case round =>
        obtain ⟨k, hk2, rfl⟩ := hrel
        have S0 := S.cell 0
        have S1 := S.cell 1
        simp at S0 S1
        by_cases hgo : k < s ∧ (k : Int) ≤ hi - lo
        · obtain ⟨hg2, hg3⟩ := hgo
          have hgI : (k : Int) < s := by omega
          obtain ⟨r1, r2, r3, r4, r5, r6⟩ := go_mod (lo + k) (show 0 < s by omega)
          have hh := has_any (some ⟨g1, 0, none⟩) c1 ys ((lo + k) % s) wr rl (by omega)
          rw [decide_eq_true (HP.out.2.2.1 (lo + k) (by omega) (by omega))] at hh
          have HH := Lib.hid hh
          clear hh
          generalize (lo + k) % (s : Int) = x at *
          go_wp2_with fail
          refine (HH.out).mono ?_
          rintro e' w' ⟨rfl, rfl⟩
          go_wp2_with fail
          go_round
          case rel => exact ⟨k + 1, by omega, by go_num⟩
          case measure => simp [intOf]; omega
        · have hout : (k : Int) < s ∧ hi - lo < (k : Int) ∨ k = s := by omega
          have Xc0 := X.cell 0
          simp at Xc0
          have HB := Lib.hid hB
          rcases hout with ⟨o1, o2⟩ | o1
          · have o3 : ¬ ((k : Int) ≤ hi - lo) := by omega
            obtain ⟨w50, hw50⟩ : ∃ w50, w50 = wr := ⟨_, rfl⟩
            subst hw50
            have hB50 := HB.out
            clear HB hB
            go_wp2_with fail
            refine (h3.out _ hrow).mono ?_
            rintro e' w51 ⟨rfl, hb51⟩
            replace X := X.keep hb51
            replace S := S.keep hb51
            replace hrow := hrow.below hb51
            have hB51 := hB50.trans (hb51.mono hB50.size)
            clear hb51 hB50 Xc0 S0 S1
            unfold pairV
            rcases hf with hf | ⟨hf, hn⟩
            · have hn1 := hn1 hf
              by_cases hle : n ≤ 1000000 - t
              · obtain ⟨p1, p2, p3, p4, p5⟩ := HP.out.2.2.2 hf hle
                have hk4 := Lib.hid (h4.out hf hle)
                subst hf
                have Xc0 := X.cell 0
                simp at Xc0
                have Xl := X.lt
                go_wp2_with fail
                refine (hk4.out _ hrow).mono ?_
                rintro e' w52 ⟨rfl, hb52⟩
                replace X := X.keep hb52
                replace S := S.keep hb52
                replace hrow := hrow.below hb52
                have hB52 := hB51.trans (hb52.mono hB51.size)
                clear Xc0 Xl
                clear hb52 hB51
                have Sc0 := S.cell 0
                have Sc1 := S.cell 1
                simp at Sc0 Sc1
                have Sl := S.lt
                have p6 : (hi2 - hi == lo2 - lo) = true := by simpa using p2
                have p7 : (Int.tmod (lo2 - lo) s == 0) = true := by simpa using p3
                unfold whereV
                go_wp2_with fail
                go_ret
                exact ⟨rfl, hB52.alloc hB52.size _⟩
              · subst hf
                have hgt : 1000000 - t < n := by omega
                go_wp2_with fail
                go_ret
                exact ⟨rfl, hB51⟩
            · subst hf hn
              go_wp2_with fail
              go_ret
              exact ⟨rfl, hB51⟩
          · have o3 : decide ((k : Int) < s) = false := by simp; omega
            obtain ⟨w50, hw50⟩ : ∃ w50, w50 = wr := ⟨_, rfl⟩
            subst hw50
            have hB50 := HB.out
            clear HB hB
            go_wp2_with fail
            refine (h3.out _ hrow).mono ?_
            rintro e' w51 ⟨rfl, hb51⟩
            replace X := X.keep hb51
            replace S := S.keep hb51
            replace hrow := hrow.below hb51
            have hB51 := hB50.trans (hb51.mono hB50.size)
            clear hb51 hB50 Xc0 S0 S1
            unfold pairV
            rcases hf with hf | ⟨hf, hn⟩
            · have hn1 := hn1 hf
              by_cases hle : n ≤ 1000000 - t
              · obtain ⟨p1, p2, p3, p4, p5⟩ := HP.out.2.2.2 hf hle
                have hk4 := Lib.hid (h4.out hf hle)
                subst hf
                have Xc0 := X.cell 0
                simp at Xc0
                have Xl := X.lt
                go_wp2_with fail
                refine (hk4.out _ hrow).mono ?_
                rintro e' w52 ⟨rfl, hb52⟩
                replace X := X.keep hb52
                replace S := S.keep hb52
                replace hrow := hrow.below hb52
                have hB52 := hB51.trans (hb52.mono hB51.size)
                clear Xc0 Xl
                clear hb52 hB51
                have Sc0 := S.cell 0
                have Sc1 := S.cell 1
                simp at Sc0 Sc1
                have Sl := S.lt
                have p6 : (hi2 - hi == lo2 - lo) = true := by simpa using p2
                have p7 : (Int.tmod (lo2 - lo) s == 0) = true := by simpa using p3
                unfold whereV
                go_wp2_with fail
                go_ret
                exact ⟨rfl, hB52.alloc hB52.size _⟩
              · subst hf
                have hgt : 1000000 - t < n := by omega
                go_wp2_with fail
                go_ret
                exact ⟨rfl, hB51⟩
            · subst hf hn
              go_wp2_with fail
              go_ret
              exact ⟨rfl, hB51⟩

set_option maxRecDepth 100000 in
set_option maxHeartbeats 4000000 in
theorem sectors_stop (A : Option Addr) (c : Nat) (L : List Mesh) (sec t x0 x1 e f : Int) (ys : List Int) (w : World) (hrow : RowAt w A (meshCells L)) (hs : L.length ≤ 100) (he : e ≠ 0) (hf : f = e ∨ e = 1)
    (h1 : Hid (RetR A L 23 #[.agg #[.slice A L.length c], .int .i64 sec, .int .i64 t] (whereV ((x0, x1), e))))
    (h2 : Hid (∀ W : World, RowAt W A (meshCells L) → Calls Try.prog 46 #[.agg #[.slice A L.length c], .int .i64 sec] W fun e w' => ∃ v, e = .returned (.tuple #[v, .int .i64 f]) ∧ w'.ownsRow W.heap.size 3 1 v ys.length (intCells ys) ∧ Below W.heap.size W w')) :
    Calls Try.prog 12 #[.agg #[.slice A L.length c], .int .i64 sec, .int .i64 t] w fun e w' => e = .returned (.bool true) ∧ Below w.heap.size w w' := by
  go_enter Try.func12, Try.ntmps12
  go_wp2_with fail
  refine (awake_any _).mono ?_
  rintro e' w0 ⟨rfl, hb0⟩
  have X : Bk w0 w.heap.size 24 #[.slice A L.length c] := (bk_last rfl).keep hb0
  replace hrow := (hrow.alloc _).below hb0
  have hB0 : Below w.heap.size w w0 := ((Below.refl w.heap.size w).alloc (Nat.le_refl _) _).trans (hb0.mono (by simp <;> omega))
  clear hb0
  have Xc0 := X.cell 0
  simp at Xc0
  have Xl := X.lt
  go_wp2_with fail
  refine (short_true A L.length c _ hs).mono ?_
  rintro e' w1 ⟨rfl, hb1⟩
  replace X := X.keep hb1
  replace hrow := hrow.below hb1
  have hB1 := hB0.trans (hb1.mono hB0.size)
  clear Xc0 Xl
  clear hb1 hB0
  have Xc0 := X.cell 0
  simp at Xc0
  have Xl := X.lt
  go_wp2_with fail
  refine (h1.out _ hrow).mono ?_
  rintro e' w2 ⟨rfl, hb2⟩
  replace X := X.keep hb2
  replace hrow := hrow.below hb2
  have hB2 := hB1.trans (hb2.mono hB1.size)
  clear Xc0 Xl
  clear hb2 hB1
  have Xc0 := X.cell 0
  simp at Xc0
  have Xl := X.lt
  unfold whereV
  go_wp2_with fail
  refine (h2.out _ (hrow.alloc _)).mono ?_
  rintro e' w3 ⟨v1, rfl, ho1, hb3⟩
  have S : Bk w3 w2.heap.size 38 #[.int .i64 x0, .int .i64 x1] := (bk_last rfl).keep hb3
  replace X := (X.alloc _).keep hb3
  replace hrow := (hrow.alloc _).below hb3
  have hB3 : Below w.heap.size w w3 := (hB2.alloc hB2.size _).trans (hb3.mono (by have := hB2.size; simp; omega))
  obtain ⟨A1, c1, rfl, _, _, _⟩ := own_form ho1
  clear Xc0 Xl
  clear hb3 hB2
  have he' : (e == 0) = false := by simpa using he
  rcases hf with hf | hf
  · subst hf
    go_wp2_with fail
    go_ret
    exact ⟨rfl, hB3⟩
  · subst hf
    by_cases hfe : f = 1
    · subst hfe
      go_wp2_with fail
      go_ret
      exact ⟨rfl, hB3⟩
    · have hfe' : (f == 1) = false := by simpa using hfe
      go_wp2_with fail
      go_ret
      exact ⟨rfl, hB3⟩

set_option maxRecDepth 100000 in
set_option maxHeartbeats 4000000 in
theorem sectors_law (A : Option Addr) (c : Nat) (L : List Mesh) (sec t : Int) (w : World) (hrow : RowAt w A (meshCells L)) (hc : L.length ≤ c) (hcm : c ≤ 9223372036854775807) :
    Calls Try.prog 12 #[.agg #[.slice A L.length c], .int .i64 sec, .int .i64 t] w fun e w' => e = .returned (.bool true) ∧ Below w.heap.size w w' := by
  by_cases hs : L.length ≤ 100
  · have h1 : ∀ t, RetR A L 23 #[.agg #[.slice A L.length c], .int .i64 sec, .int .i64 t] (whereV (whereR L sec t)) := fun t W h => wheres_any A c L sec t W h hc hcm
    have h2 : ∀ W : World, RowAt W A (meshCells L) → Calls Try.prog 46 #[.agg #[.slice A L.length c], .int .i64 sec] W fun e w' => ∃ v, e = .returned (.tuple #[v, .int .i64 (allR L sec).2]) ∧ w'.ownsRow W.heap.size 3 1 v (allR L sec).1.length (intCells (allR L sec).1) ∧ Below W.heap.size W w' :=
      fun W h => all_any A c L sec W h hc hcm
    by_cases he : (whereR L sec t).2 = 0
    · obtain ⟨hok, ht0, ht1, hs2, hs96, ha, hne, hrange, hsort, hlh, hlo, hhi, hmem, hper⟩ := sectors_ok he
      obtain ⟨s, rfl⟩ := Int.eq_ofNat_of_zero_le (show 0 ≤ sec by omega)
      have hW : whereR L s t = (((whereR L s t).1.1, (whereR L s t).1.2), 0) := Prod.ext rfl he
      have h1' := h1 t
      rw [hW] at h1'
      rw [ha] at h2
      have hpe : (periodR L).2 = 0 ∨ ((periodR L).2 = 2 ∧ (periodR L).1 = 0) := by
        rw [periodR, if_pos hok]
        cases perGo (shaftL L) 1 <;> simp [perV]
      have hyl : (allR L s).1.length ≤ 96 := by
        have h : (allR L s).1.length ≤ s := by
          rw [allR, if_pos hok]
          split
          · split
            · simp only [List.length_map, Int.toNat_natCast]
              exact Nat.le_trans (List.length_filter_le _ _) (by simp)
            · simp
          · simp
        omega
      by_cases hp : (periodR L).2 = 0 ∧ (periodR L).1 ≤ 1000000 - t
      · obtain ⟨d, hd, hd1, hd2⟩ := hper hp.1 hp.2
        have hd3 : 0 < d * s := Int.mul_pos (by omega) (by omega)
        refine sectors_core A c L s t (whereR L s t).1.1 (whereR L s t).1.2 ((whereR L s t).1.1 + d * s) ((whereR L s t).1.2 + d * s) (periodR L).1 (periodR L).2 (allR L s).1 w hrow hs (by omega) (by omega) ht0 ht1
          (List.length_pos_iff.2 hne) hyl hrange (fun j h => (List.pairwise_iff_getElem.1 hsort) j (j + 1) (by omega) h (by omega)) hlh hlo hhi hmem hpe (fun _ _ => ⟨by omega, by omega, ?_, by omega, by omega⟩) (fun hf => ?_) h1' h2 (fun W h => period_any A c L W h hc hcm) (fun _ _ => ?_)
        · have e : (whereR L s t).1.1 + d * s - (whereR L s t).1.1 = d * s := by omega
          rw [e]
          exact Int.mul_tmod_left _ _
        · rw [periodR, if_pos hok] at hf ⊢
          cases hg : perGo (shaftL L) 1 with
          | none => rw [hg] at hf; simp [perV] at hf
          | some n =>
            have hsh : shaftsOK L (L.length + 1) := by
              refine Classical.byContradiction fun hne => ?_
              rw [perGo_all hne] at hg
              cases hg
            obtain ⟨_, k2, _⟩ := perGo_some _ _ _ hg (by omega) (den_pos hok hsh)
            simp only [perV]
            omega
        · have h := h1 (t + (periodR L).1)
          rw [hd] at h
          exact h
      · refine sectors_core A c L s t (whereR L s t).1.1 (whereR L s t).1.2 0 0 (periodR L).1 (periodR L).2 (allR L s).1 w hrow hs (by omega) (by omega) ht0 ht1
          (List.length_pos_iff.2 hne) hyl hrange (fun j h => (List.pairwise_iff_getElem.1 hsort) j (j + 1) (by omega) h (by omega)) hlh hlo hhi hmem hpe (fun a b => absurd ⟨a, b⟩ hp) (fun hf => ?_) h1' h2 (fun W h => period_any A c L W h hc hcm) (fun a b => absurd ⟨a, b⟩ hp)
        rw [periodR, if_pos hok] at hf ⊢
        cases hg : perGo (shaftL L) 1 with
        | none => rw [hg] at hf; simp [perV] at hf
        | some n =>
          have hsh : shaftsOK L (L.length + 1) := by
            refine Classical.byContradiction fun hne => ?_
            rw [perGo_all hne] at hg
            cases hg
          obtain ⟨_, k2, _⟩ := perGo_some _ _ _ hg (by omega) (den_pos hok hsh)
          simp only [perV]
          omega
    · have hW : whereR L sec t = (((whereR L sec t).1.1, (whereR L sec t).1.2), (whereR L sec t).2) := rfl
      have h1' := h1 t
      rw [hW] at h1'
      exact sectors_stop A c L sec t _ _ _ _ _ w hrow hs he (sectors_bad he) h1' h2
  · go_enter Try.func12, Try.ntmps12
    go_wp2_with fail
    refine (awake_any _).mono ?_
    rintro e' w0 ⟨rfl, hb0⟩
    have X : Bk w0 w.heap.size 24 #[.slice A L.length c] := (bk_last rfl).keep hb0
    replace hrow := (hrow.alloc _).below hb0
    have hB0 : Below w.heap.size w w0 := ((Below.refl w.heap.size w).alloc (Nat.le_refl _) _).trans (hb0.mono (by simp <;> omega))
    clear hb0
    have Xc0 := X.cell 0
    simp at Xc0
    have Xl := X.lt
    go_wp2_with fail
    refine (short_false A L.length c _ hs).mono ?_
    rintro e' w1 ⟨rfl, hb1⟩
    replace X := X.keep hb1
    replace hrow := hrow.below hb1
    have hB1 := hB0.trans (hb1.mono hB0.size)
    clear Xc0 Xl
    clear hb1 hB0
    go_wp2
    go_ret
    exact ⟨rfl, hB1⟩

end Go.Proofs.Ytheifigkclegdaa
