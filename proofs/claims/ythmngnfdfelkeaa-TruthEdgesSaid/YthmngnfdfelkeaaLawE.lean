/-
  What is proved: TruthEdges answers true.
-/
import Derived.Test.YthmngnfdfelkeaaAwake
import Derived.Deep.DeepCutAuto
namespace Go.Proofs.Ythmngnfdfelkeaa
open Go.RowKit
attribute [local go_sem ↓] max_int min_int

/-- The height at the i-th cell. -/
def hgt (hs cs : List Int) (i : Nat) : Int := hs.getD (cs.getD i 0).toNat 0
theorem most_le {F : Nat → Int} : ∀ (n i : Nat), i < n → F i ≤ mostF F n
  | n + 1, i, h => by
    simp only [mostF]
    by_cases e : i = n
    · subst e; omega
    · have := most_le (F := F) n i (by omega)
      omega
theorem most_at {F : Nat → Int} : ∀ n, 0 < n → ∃ i, i < n ∧ mostF F n = F i
  | 1, _ => ⟨0, by omega, by simp [mostF]⟩
  | n + 2, _ => by
    obtain ⟨i, h1, h2⟩ := most_at (F := F) (n + 1) (by omega)
    simp only [mostF] at h2 ⊢
    by_cases e : max (mostF F n) (F n) ≤ F (n + 1)
    · exact ⟨n + 1, by omega, by omega⟩
    · exact ⟨i, by omega, by omega⟩
theorem redL_len (hs cs : List Int) (tol : Int) (k : Nat) : (redL hs cs tol k).length = k := by simp [redL]
theorem redL_get (hs cs : List Int) (tol : Int) {k i : Nat} (h : i < (redL hs cs tol k).length) : (redL hs cs tol k)[i] = decide (redTop hs cs - tol ≤ hgt hs cs i) := by
  simp [redL, hgt]

def geB (hs cs : List Int) (i k : Nat) : Bool := (List.range k).all fun j => decide (hgt hs cs j ≤ hgt hs cs i)
theorem geB_succ (hs cs : List Int) (i k : Nat) : geB hs cs i (k + 1) = (geB hs cs i k && decide (hgt hs cs k ≤ hgt hs cs i)) := by
  unfold geB
  rw [List.range_succ, List.all_append]
  simp

theorem redOk_parts {hs cs : List Int} {tol : Int} (h : redOk hs cs tol = true) : 0 < cs.length ∧ (0 ≤ tol ∧ tol ≤ 1000000000) ∧ (∀ i, i < cs.length → 0 ≤ cs.getD i 0 ∧ cs.getD i 0 < hs.length) ∧ (∀ x ∈ hs, -1000000000 ≤ x ∧ x ≤ 1000000000) := by
  simp only [redOk, Bool.and_eq_true, List.all_eq_true, List.mem_range, flatB, inB, decide_eq_true_eq] at h
  obtain ⟨h1, h2, h3, h4⟩ := h
  refine ⟨?_, h4, fun i hi => ?_, h2⟩
  · cases cs
    · simp at h3
    · simp
  · have := h1 i hi
    simp only [badC, Bool.not_eq_true', Bool.or_eq_false_iff, decide_eq_false_iff_not] at this
    omega
theorem redOk_more {hs cs : List Int} {tol : Int} (h : redOk hs cs tol = true) : redOk hs cs (tol + 1) = decide (tol < 1000000000) := by
  have h0 := (redOk_parts h).2.1
  simp only [redOk, Bool.and_eq_true] at h
  obtain ⟨h1, h2, h3, h4⟩ := h
  simp only [redOk, h1, h2, h3, Bool.true_and]
  simp only [inB]
  congr 1
  apply propext
  omega
theorem hgt_le {hs cs : List Int} {i : Nat} (h : i < cs.length) : hgt hs cs i ≤ redTop hs cs := most_le (F := hgt hs cs) cs.length i h
theorem hgt_top {hs cs : List Int} {i : Nat} (h : 0 < cs.length) (hi : i < cs.length) (hg : geB hs cs i cs.length = true) : redTop hs cs = hgt hs cs i := by
  obtain ⟨j, hj, he⟩ := most_at (F := hgt hs cs) cs.length h
  have h1 : hgt hs cs j ≤ hgt hs cs i := by
    simp only [geB, List.all_eq_true, List.mem_range, decide_eq_true_eq] at hg
    exact hg j hj
  have h2 : redTop hs cs = hgt hs cs j := he
  have := hgt_le (hs := hs) hi
  omega

set_option maxRecDepth 100000 in
set_option maxHeartbeats 8000000 in
theorem edges_law (A1 A2 : Option Addr) (c1 c2 : Nat) (hs cs : List Int) (tol : Int) (w : World) (h1 : RowAt w A1 (intCells hs)) (h2 : RowAt w A2 (intCells cs)) (ht : -9223372036854775808 ≤ tol ∧ tol ≤ 9223372036854775807) :
    Calls Try.prog 6 #[.slice A1 hs.length c1, .slice A2 cs.length c2, .int .i64 tol] w fun e w' => e = .returned (.bool true) ∧ Below w.heap.size w w' := by
  by_cases n1 : hs.length ≤ 1000
  · by_cases n2 : cs.length ≤ 200
    · have n1I : (hs.length : Int) ≤ 1000 := by omega
      have n2I : (cs.length : Int) ≤ 200 := by omega
      go_enter Try.func6, Try.ntmps6
      go_wp2_with (go_at_call 15; refine (awake_any _).mono ?_; rintro e w1 ⟨rfl, hb1⟩)
      refine (red_any A1 A2 c1 c2 hs cs tol _ (h1.below hb1) (h2.below hb1) (by omega) (by omega)).mono ?_
      rintro e w2 ⟨v, rfl, ho, hb2⟩
      have hB2 := hb1.trans (hb2.mono hb1.size)
      obtain ⟨A, c, rfl, _, hr, _⟩ := own_form ho
      by_cases hok : redOk hs cs tol = true
      · have e1 : redR hs cs tol = (redL hs cs tol cs.length, 0) := by simp [redR, hok]
        rw [e1] at hr ⊢
        simp only [redL_len] at hr ⊢
        obtain ⟨p0, p1, p2, p3⟩ := redOk_parts hok
        have hg00 := p2 0 p0
        have HP := Lib.hid (And.intro p0 (And.intro p1 (And.intro p2 p3)))
        have hmore := redOk_more hok
        clear hok e1 ho p2 p3
        have hlq : ((cs.length : Int) == cs.length) = true := by simp
        go_wp2_with fail
        refine (red_any A1 A2 c1 c2 hs cs (tol + 1) _ (h1.below hB2) (h2.below hB2) (by omega) (by omega)).mono ?_
        rintro e w3 ⟨v', rfl, ho', hb3⟩
        have hB3 := hB2.trans (hb3.mono hB2.size)
        obtain ⟨A', c', rfl, _, hr', _⟩ := own_form ho'
        have hr3 := hr.below hb3
        obtain ⟨b1, o1, rfl, hb1', hc1⟩ := (h1.below hB3).intD (by omega)
        obtain ⟨b2, o2, rfl, hb2', hc2⟩ := (h2.below hB3).intD p0
        obtain ⟨b4, o4, rfl, hb4', hc4⟩ := hr3.bool (by rw [redL_len]; exact p0)
        have HC : Hid ((∀ k, k < hs.length → w3.cell? ⟨b1, o1 + k, none⟩ = some (.int .i64 (hs.getD k 0))) ∧ (∀ k, k < cs.length → w3.cell? ⟨b2, o2 + k, none⟩ = some (.int .i64 (cs.getD k 0))) ∧ (∀ k, k < cs.length → w3.cell? ⟨b4, o4 + k, none⟩ = some (.bool (decide (redTop hs cs - tol ≤ hgt hs cs k))))) :=
          ⟨hc1, hc2, fun k hk => by rw [hc4 k (by rw [redL_len]; exact hk), redL_get]⟩
        clear hc1 hc2 hc4 hr hr3 hb2 hb3
        by_cases htl : tol < 1000000000
        · have e2 : redR hs cs (tol + 1) = (redL hs cs (tol + 1) cs.length, 0) := by simp [redR, hmore, htl]
          rw [e2] at hr' ho' ⊢
          simp only [redL_len] at hr' ho' ⊢
          obtain ⟨b5, o5, rfl, hb5', hc5⟩ := hr'.bool (by rw [redL_len]; exact p0)
          have HC5 : Hid (∀ k, k < cs.length → w3.cell? ⟨b5, o5 + k, none⟩ = some (.bool (decide (redTop hs cs - (tol + 1) ≤ hgt hs cs k)))) := fun k hk => by rw [hc5 k (by rw [redL_len]; exact hk), redL_get]
          clear hc5 e2 hmore ho' hr'
          go_upto_region 11 with fail
          go_loopw [12] (fun i wr => ∃ k n : Nat, k ≤ cs.length ∧ i = .int .i64 k ∧ wr = w3.drewN n) (fun i _ => cs.length - (intOf i).toNat)
          case atStart => exact ⟨0, 0, Nat.zero_le _, rfl, rfl⟩
          case round =>
            obtain ⟨i, n, hi, rfl, rfl⟩ := hrel
            by_cases hlt : i < cs.length
            · have hiI : (i : Int) < cs.length := by omega
              go_upto_region 15 with fail
              go_loopw [13, 14] (fun m k wr => ∃ j n : Nat, j ≤ cs.length ∧ k = .int .i64 j ∧ m = .bool (geB hs cs i j) ∧ wr = w3.drewN n) (fun _ k _ => cs.length - (intOf k).toNat)
              case atStart => exact ⟨0, n, Nat.zero_le _, rfl, by simp [geB], rfl⟩
              case round =>
                obtain ⟨j, n2, hj, rfl, rfl, rfl⟩ := hrel
                by_cases hjl : j < cs.length
                · have hjI : (j : Int) < cs.length := by omega
                  obtain ⟨g0, g1⟩ := HP.out.2.2.1 i hlt
                  obtain ⟨g2, g3⟩ := HP.out.2.2.1 j hjl
                  have d1 := HC.out.2.1 i hlt
                  have d2 := HC.out.2.1 j hjl
                  have d3 := HC.out.1 (cs.getD i 0).toNat (by omega)
                  have d4 := HC.out.1 (cs.getD j 0).toNat (by omega)
                  have d5 := HC.out.2.2 i hlt
                  have d6 := HC.out.2.2 j hjl
                  have b1 := HP.out.2.2.2 (hgt hs cs i) (getD_mem 0 (by omega))
                  have b2 := HP.out.2.2.2 (hgt hs cs j) (getD_mem 0 (by omega))
                  have e1 := hgt_le (hs := hs) hlt
                  have e2 := hgt_le (hs := hs) hjl
                  have HS := Lib.hid (geB_succ hs cs i j)
                  rw [show hs.getD (cs.getD i 0).toNat 0 = hgt hs cs i from rfl] at d3
                  rw [show hs.getD (cs.getD j 0).toNat 0 = hgt hs cs j from rfl] at d4
                  generalize hgt hs cs i = x at *
                  generalize hgt hs cs j = y at *
                  generalize cs.getD i 0 = p at *
                  obtain ⟨pn, rfl⟩ : ∃ pn : Nat, p = pn := ⟨p.toNat, by omega⟩
                  generalize cs.getD j 0 = q at *
                  obtain ⟨qn, rfl⟩ : ∃ qn : Nat, q = qn := ⟨q.toNat, by omega⟩
                  rw [Int.toNat_natCast] at d3 d4
                  have h01 := HP.out.2.1
                  generalize redTop hs cs = top at *
                  generalize geB hs cs i j = m at *
                  obtain ⟨ai, hai⟩ : ∃ ai, decide (top - tol ≤ x) = ai := ⟨_, rfl⟩
                  obtain ⟨aj, haj⟩ : ∃ aj, decide (top - tol ≤ y) = aj := ⟨_, rfl⟩
                  rw [hai] at d5
                  rw [haj] at d6
                  have f1 : ai = true → aj = false → 1 ≤ x - y := fun h h' => by
                    subst h h'
                    have := of_decide_eq_true hai
                    have := of_decide_eq_false haj
                    omega
                  have f2 : ai = true → aj = true → x - y ≤ tol := fun h h' => by
                    subst h h'
                    have := of_decide_eq_true haj
                    omega
                  clear hai haj
                  have HN : Hid (n2 = n2) := rfl
                  go_wp2_with fail
                  go_quiet (fail)
                  obtain ⟨wq, hwq⟩ : ∃ wq, (w3.drewN n2).drewN nq = wq := ⟨_, rfl⟩
                  have hq0 : wq = w3.drewN (n2 + nq) := by rw [← hwq]; exact World.drewN_drewN _ _ _
                  have d5' : wq.cell? ⟨b4, o4 + i, none⟩ = some (.bool ai) := by rw [hq0]; exact d5
                  have d6' : wq.cell? ⟨b4, o4 + j, none⟩ = some (.bool aj) := by rw [hq0]; exact d6
                  rw [hwq]
                  have HQ := Lib.hid hq0
                  clear hwq hq0 d1 d2 d3 d4 d5 d6
                  go_upto_region 18 with fail
                  obtain ⟨mm, hmm⟩ : ∃ mm, (m && decide (0 ≤ x - y)) = mm := ⟨_, rfl⟩
                  have HMM := Lib.hid hmm
                  clear hmm
                  go_cut [13] from 60 to 117 (fun s13 wx => s13 = .bool mm ∧ wx = wq)
                  case first =>
                    cases m
                    · have hmf : mm = false := by rw [← HMM.out]; rfl
                      subst hmf
                      go_wp2_with fail
                      go_meet
                      case rel => exact ⟨by first | rfl | (simp; omega), rfl⟩
                    · by_cases hd : 0 ≤ x - y
                      · have hmf : mm = true := by rw [← HMM.out]; simp; omega
                        subst hmf
                        go_wp2_with fail
                        go_meet
                        case rel => exact ⟨by first | rfl | (simp; omega), rfl⟩
                      · have hmf : mm = false := by rw [← HMM.out]; simp; omega
                        subst hmf
                        go_wp2_with fail
                        go_meet
                        case rel => exact ⟨by first | rfl | (simp; omega), rfl⟩
                  case rest =>
                  obtain ⟨rfl, rfl⟩ := hcut
                  go_upto_region 19 with fail
                  go_cut [117] from 60 to 117 (fun c wx => c = .bool false ∧ wx = wc)
                  case first =>
                    cases ai <;> cases aj
                    · clear f1 f2
                      go_wp2_with fail
                      go_meet
                      case rel => exact ⟨by first | rfl | (simp; omega), rfl⟩
                    · clear f1 f2
                      go_wp2_with fail
                      go_meet
                      case rel => exact ⟨by first | rfl | (simp; omega), rfl⟩
                    · have f1' := f1 rfl rfl
                      clear f1 f2
                      go_wp2_with fail
                      go_meet
                      case rel => exact ⟨by first | rfl | (simp; omega), rfl⟩
                    · have f2' := f2 rfl rfl
                      clear f1 f2
                      go_wp2_with fail
                      go_meet
                      case rel => exact ⟨by first | rfl | (simp; omega), rfl⟩
                  case rest =>
                  obtain ⟨rfl, rfl⟩ := hcut
                  clear f1 f2
                  go_wp2_with fail
                  refine ⟨⟨j + 1, n2 + nq, by omega, by go_num, ?_, HQ.out⟩, by simp [intOf]; omega⟩
                  rw [HS.out, ← HMM.out, decide_eq_decide.2 (show 0 ≤ x - y ↔ y ≤ x by omega)]
                · obtain rfl : j = cs.length := by omega
                  have d5 := HC.out.2.2 i hlt
                  have d7 := HC5.out i hlt
                  have e3 := hgt_top (hs := hs) HP.out.1 hlt
                  obtain ⟨ai, hai⟩ : ∃ ai, decide (redTop hs cs - tol ≤ hgt hs cs i) = ai := ⟨_, rfl⟩
                  obtain ⟨bi, hbi⟩ : ∃ bi, decide (redTop hs cs - (tol + 1) ≤ hgt hs cs i) = bi := ⟨_, rfl⟩
                  rw [hai] at d5
                  rw [hbi] at d7
                  have f1 : geB hs cs i cs.length = true → ai = true := fun h => by
                    have := e3 h
                    rw [← hai]
                    exact decide_eq_true (by have := HP.out.2.1; omega)
                  have f2 : ai = true → bi = true := fun h => by
                    subst h
                    have := of_decide_eq_true hai
                    rw [← hbi]
                    exact decide_eq_true (by omega)
                  clear e3 hai hbi
                  generalize geB hs cs i cs.length = m at *
                  go_upto_region 21 with fail
                  go_cut [149] from 54 to 149 (fun c wx => c = .bool false ∧ wx = w3.drewN n2)
                  case first =>
                    cases m <;> cases ai <;> cases bi
                    all_goals
                      first
                        | (exfalso; have := f1 rfl; cases this; done)
                        | (exfalso; have := f2 rfl; cases this; done)
                        | (clear f1 f2
                           go_wp2_with fail
                           go_meet
                           case rel => exact ⟨by first | rfl | (simp; done), rfl⟩)
                  case rest =>
                  obtain ⟨rfl, rfl⟩ := hcut
                  clear f1 f2 d5 d7
                  go_wp2_with fail
                  exact ⟨⟨i + 1, n2, by omega, by go_num, rfl⟩, by simp [intOf]; omega⟩
            · obtain rfl : i = cs.length := by omega
              go_wp2_with fail
              go_ret
              exact ⟨rfl, below_drewN hB3 _⟩
        · obtain rfl : tol = 1000000000 := by omega
          have e2 : redR hs cs (1000000000 + 1) = ([], 1) := by
            unfold redR
            rw [if_neg (by rw [hmore]; decide)]
          rw [e2]
          clear e2 hmore ho' hr'
          simp only [List.length_nil]
          go_upto_region 11 with fail
          go_loopw [12] (fun i wr => ∃ k n : Nat, k ≤ cs.length ∧ i = .int .i64 k ∧ wr = w3.drewN n) (fun i _ => cs.length - (intOf i).toNat)
          case atStart => exact ⟨0, 0, Nat.zero_le _, rfl, rfl⟩
          case round =>
            obtain ⟨i, n, hi, rfl, rfl⟩ := hrel
            by_cases hlt : i < cs.length
            · have hiI : (i : Int) < cs.length := by omega
              go_upto_region 15 with fail
              go_loopw [13, 14] (fun m k wr => ∃ j n : Nat, j ≤ cs.length ∧ k = .int .i64 j ∧ m = .bool (geB hs cs i j) ∧ wr = w3.drewN n) (fun _ k _ => cs.length - (intOf k).toNat)
              case atStart => exact ⟨0, n, Nat.zero_le _, rfl, by simp [geB], rfl⟩
              case round =>
                obtain ⟨j, n2, hj, rfl, rfl, rfl⟩ := hrel
                by_cases hjl : j < cs.length
                · have hjI : (j : Int) < cs.length := by omega
                  obtain ⟨g0, g1⟩ := HP.out.2.2.1 i hlt
                  obtain ⟨g2, g3⟩ := HP.out.2.2.1 j hjl
                  have d1 := HC.out.2.1 i hlt
                  have d2 := HC.out.2.1 j hjl
                  have d3 := HC.out.1 (cs.getD i 0).toNat (by omega)
                  have d4 := HC.out.1 (cs.getD j 0).toNat (by omega)
                  have d5 := HC.out.2.2 i hlt
                  have d6 := HC.out.2.2 j hjl
                  have b1 := HP.out.2.2.2 (hgt hs cs i) (getD_mem 0 (by omega))
                  have b2 := HP.out.2.2.2 (hgt hs cs j) (getD_mem 0 (by omega))
                  have e1 := hgt_le (hs := hs) hlt
                  have e2 := hgt_le (hs := hs) hjl
                  have HS := Lib.hid (geB_succ hs cs i j)
                  rw [show hs.getD (cs.getD i 0).toNat 0 = hgt hs cs i from rfl] at d3
                  rw [show hs.getD (cs.getD j 0).toNat 0 = hgt hs cs j from rfl] at d4
                  generalize hgt hs cs i = x at *
                  generalize hgt hs cs j = y at *
                  generalize cs.getD i 0 = p at *
                  obtain ⟨pn, rfl⟩ : ∃ pn : Nat, p = pn := ⟨p.toNat, by omega⟩
                  generalize cs.getD j 0 = q at *
                  obtain ⟨qn, rfl⟩ : ∃ qn : Nat, q = qn := ⟨q.toNat, by omega⟩
                  rw [Int.toNat_natCast] at d3 d4
                  have h01 := HP.out.2.1
                  generalize redTop hs cs = top at *
                  generalize geB hs cs i j = m at *
                  obtain ⟨ai, hai⟩ : ∃ ai, decide (top - 1000000000 ≤ x) = ai := ⟨_, rfl⟩
                  obtain ⟨aj, haj⟩ : ∃ aj, decide (top - 1000000000 ≤ y) = aj := ⟨_, rfl⟩
                  rw [hai] at d5
                  rw [haj] at d6
                  have f1 : ai = true → aj = false → 1 ≤ x - y := fun h h' => by
                    subst h h'
                    have := of_decide_eq_true hai
                    have := of_decide_eq_false haj
                    omega
                  have f2 : ai = true → aj = true → x - y ≤ 1000000000 := fun h h' => by
                    subst h h'
                    have := of_decide_eq_true haj
                    omega
                  clear hai haj
                  have HN : Hid (n2 = n2) := rfl
                  go_wp2_with fail
                  go_quiet (fail)
                  obtain ⟨wq, hwq⟩ : ∃ wq, (w3.drewN n2).drewN nq = wq := ⟨_, rfl⟩
                  have hq0 : wq = w3.drewN (n2 + nq) := by rw [← hwq]; exact World.drewN_drewN _ _ _
                  have d5' : wq.cell? ⟨b4, o4 + i, none⟩ = some (.bool ai) := by rw [hq0]; exact d5
                  have d6' : wq.cell? ⟨b4, o4 + j, none⟩ = some (.bool aj) := by rw [hq0]; exact d6
                  rw [hwq]
                  have HQ := Lib.hid hq0
                  clear hwq hq0 d1 d2 d3 d4 d5 d6
                  go_upto_region 18 with fail
                  obtain ⟨mm, hmm⟩ : ∃ mm, (m && decide (0 ≤ x - y)) = mm := ⟨_, rfl⟩
                  have HMM := Lib.hid hmm
                  clear hmm
                  go_cut [13] from 60 to 117 (fun s13 wx => s13 = .bool mm ∧ wx = wq)
                  case first =>
                    cases m
                    · have hmf : mm = false := by rw [← HMM.out]; rfl
                      subst hmf
                      go_wp2_with fail
                      go_meet
                      case rel => exact ⟨by first | rfl | (simp; omega), rfl⟩
                    · by_cases hd : 0 ≤ x - y
                      · have hmf : mm = true := by rw [← HMM.out]; simp; omega
                        subst hmf
                        go_wp2_with fail
                        go_meet
                        case rel => exact ⟨by first | rfl | (simp; omega), rfl⟩
                      · have hmf : mm = false := by rw [← HMM.out]; simp; omega
                        subst hmf
                        go_wp2_with fail
                        go_meet
                        case rel => exact ⟨by first | rfl | (simp; omega), rfl⟩
                  case rest =>
                  obtain ⟨rfl, rfl⟩ := hcut
                  go_upto_region 19 with fail
                  go_cut [117] from 60 to 117 (fun c wx => c = .bool false ∧ wx = wc)
                  case first =>
                    cases ai <;> cases aj
                    · clear f1 f2
                      go_wp2_with fail
                      go_meet
                      case rel => exact ⟨by first | rfl | (simp; omega), rfl⟩
                    · clear f1 f2
                      go_wp2_with fail
                      go_meet
                      case rel => exact ⟨by first | rfl | (simp; omega), rfl⟩
                    · have f1' := f1 rfl rfl
                      clear f1 f2
                      go_wp2_with fail
                      go_meet
                      case rel => exact ⟨by first | rfl | (simp; omega), rfl⟩
                    · have f2' := f2 rfl rfl
                      clear f1 f2
                      go_wp2_with fail
                      go_meet
                      case rel => exact ⟨by first | rfl | (simp; omega), rfl⟩
                  case rest =>
                  obtain ⟨rfl, rfl⟩ := hcut
                  clear f1 f2
                  go_wp2_with fail
                  refine ⟨⟨j + 1, n2 + nq, by omega, by go_num, ?_, HQ.out⟩, by simp [intOf]; omega⟩
                  rw [HS.out, ← HMM.out, decide_eq_decide.2 (show 0 ≤ x - y ↔ y ≤ x by omega)]
                · obtain rfl : j = cs.length := by omega
                  have d5 := HC.out.2.2 i hlt
                  have e3 := hgt_top (hs := hs) HP.out.1 hlt
                  obtain ⟨ai, hai⟩ : ∃ ai, decide (redTop hs cs - 1000000000 ≤ hgt hs cs i) = ai := ⟨_, rfl⟩
                  rw [hai] at d5
                  have f1 : geB hs cs i cs.length = true → ai = true := fun h => by
                    have := e3 h
                    rw [← hai]
                    exact decide_eq_true (by have := HP.out.2.1; omega)
                  clear e3 hai
                  generalize geB hs cs i cs.length = m at *
                  go_upto_region 21 with fail
                  go_cut [149] from 54 to 149 (fun c wx => c = .bool false ∧ wx = w3.drewN n2)
                  case first =>
                    cases m <;> cases ai
                    all_goals
                      first
                        | (exfalso; have := f1 rfl; cases this; done)
                        | (clear f1
                           go_wp2_with fail
                           go_meet
                           case rel => exact ⟨by first | rfl | (simp; done), rfl⟩)
                  case rest =>
                  obtain ⟨rfl, rfl⟩ := hcut
                  clear f1 d5
                  go_wp2_with fail
                  exact ⟨⟨i + 1, n2, by omega, by go_num, rfl⟩, by simp [intOf]; omega⟩
            · obtain rfl : i = cs.length := by omega
              go_wp2_with fail
              go_ret
              exact ⟨rfl, below_drewN hB3 _⟩
      · have e1 : redR hs cs tol = ([], 1) := by simp [redR, hok]
        rw [e1] at hr ⊢
        clear e1 ho hr hok
        simp only [List.length_nil]
        go_wp2_with fail
        go_ret
        exact ⟨rfl, hB2⟩
    · have n2I : (200 : Int) < cs.length := by omega
      go_enter Try.func6, Try.ntmps6
      by_cases n1I : (hs.length : Int) ≤ 1000
      · go_wp2_with (go_at_call 15; refine (awake_any _).mono ?_; rintro e w1 ⟨rfl, hb1⟩)
        go_ret
        exact ⟨rfl, hb1⟩
      · go_wp2_with (go_at_call 15; refine (awake_any _).mono ?_; rintro e w1 ⟨rfl, hb1⟩)
        go_ret
        exact ⟨rfl, hb1⟩
  · have n1I : (1000 : Int) < hs.length := by omega
    go_enter Try.func6, Try.ntmps6
    go_wp2_with (go_at_call 15; refine (awake_any _).mono ?_; rintro e w1 ⟨rfl, hb1⟩)
    go_ret
    exact ⟨rfl, hb1⟩

end Go.Proofs.Ythmngnfdfelkeaa
