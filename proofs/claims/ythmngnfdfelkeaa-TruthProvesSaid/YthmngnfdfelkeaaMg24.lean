/-
  What is proved: the contracts of the two sums, of the reference's Leads, and of few.
  What is proved: plain laws of leads for the law TruthBalances.
-/
import Derived.Test.YthmngnfdfelkeaaMg9
import Derived.Test.YthmngnfdfelkeaaRefBMg
import Derived.Test.YthmngnfdfelkeaaMg22
namespace Go.Proofs.Ythmngnfdfelkeaa
open Go.RowKit
attribute [local go_sem ↓] max_int min_int

set_option maxRecDepth 100000 in
set_option maxHeartbeats 2000000 in
theorem lsum_any (A : Option Addr) (c : Nat) (l : List Int) (w : World) (hL : RowAt w A (intCells l)) (hn : l.length ≤ 1000000) (hb : ∀ x ∈ l, -1000000000 ≤ x ∧ x ≤ 1000000000) :
    Calls Try.prog 34 #[.slice A l.length c] w fun e w' => e = .returned (.int .i64 (sumF l l.length)) ∧ w = w' := by
  have HB := Lib.hid (And.intro hL hb)
  clear hL hb
  go_enter Try.func34, Try.ntmps34
  go_upto_region 3 with fail
  go_loopw [3, 4] (fun n i wr => ∃ k : Nat, k ≤ l.length ∧ i = .int .i64 k ∧ n = .int .i64 (sumF l k) ∧ w = wr) (fun _ i _ => l.length - (intOf i).toNat)
  case atStart => exact ⟨0, Nat.zero_le _, rfl, rfl, rfl⟩
  case round =>
    obtain ⟨k, hk, rfl, rfl, rfl⟩ := hrel
    by_cases hlt : k < l.length
    · have hkI : (k : Int) < l.length := by omega
      obtain ⟨b, off, rfl, hb, hc⟩ := HB.out.1.intD (by omega)
      have d0 := hc k hlt
      have h1 := sumF_bound HB.out.2 k hk
      have h2 := HB.out.2 _ (getD_mem 0 hlt)
      have HS : Hid (sumF l (k + 1) = sumF l k + l.getD k 0) := rfl
      clear hc
      generalize sumF l k = s at *
      generalize l.getD k 0 = x at *
      go_wp2_with fail
      go_roundw
      case rel => exact ⟨k + 1, by omega, by go_num, by rw [HS.out], trivial⟩
      case measure => simp [intOf]; omega
    · obtain rfl : k = l.length := by omega
      go_wp2_with fail
      go_ret
      exact ⟨rfl, rfl⟩

set_option maxRecDepth 100000 in
set_option maxHeartbeats 2000000 in
theorem rsum_any (A : Option Addr) (c : Nat) (l : List Int) (w : World) (hL : RowAt w A (intCells l)) (hn : l.length ≤ 1000000) (hb : ∀ x ∈ l, -1000000000 ≤ x ∧ x ≤ 1000000000) :
    Calls Try.prog 63 #[.slice A l.length c] w fun e w' => e = .returned (.int .i64 (sumF l l.length)) ∧ w = w' := by
  have HB := Lib.hid (And.intro hL hb)
  clear hL hb
  go_enter Try.func63, Try.ntmps63
  go_upto_region 3 with fail
  go_loopw [3, 4] (fun n i wr => ∃ k : Nat, k ≤ l.length ∧ i = .int .i64 k ∧ n = .int .i64 (sumF l k) ∧ w = wr) (fun _ i _ => l.length - (intOf i).toNat)
  case atStart => exact ⟨0, Nat.zero_le _, rfl, rfl, rfl⟩
  case round =>
    obtain ⟨k, hk, rfl, rfl, rfl⟩ := hrel
    by_cases hlt : k < l.length
    · have hkI : (k : Int) < l.length := by omega
      obtain ⟨b, off, rfl, hb, hc⟩ := HB.out.1.intD (by omega)
      have d0 := hc k hlt
      have h1 := sumF_bound HB.out.2 k hk
      have h2 := HB.out.2 _ (getD_mem 0 hlt)
      have HS : Hid (sumF l (k + 1) = sumF l k + l.getD k 0) := rfl
      clear hc
      generalize sumF l k = s at *
      generalize l.getD k 0 = x at *
      go_wp2_with fail
      go_roundw
      case rel => exact ⟨k + 1, by omega, by go_num, by rw [HS.out], trivial⟩
      case measure => simp [intOf]; omega
    · obtain rfl : k = l.length := by omega
      go_wp2_with fail
      go_ret
      exact ⟨rfl, rfl⟩

theorem prodM_take_succ {s : Stn} (h : s.ok = true) {n : Nat} (hn : n < s.pockets.length) : ((prodM ((mosts s).take (n + 1)) : Nat) : Int) = (prodM ((mosts s).take n) : Nat) * ((s.pockets.getD n ((0, 0), 0)).2 + 1) := by
  have hl : n < (mosts s).length := by rw [mosts_len]; omega
  have e : (mosts s).take (n + 1) = (mosts s).take n ++ [(mosts s).getD n 0] := by
    rw [List.take_add_one, List.getElem?_eq_getElem hl, getD_get _ _ hl]; rfl
  rw [e, prodM_app, mosts_get h hn]
  simp [prodM]
theorem prodM_take_le (ms : List Nat) (n : Nat) : prodM (ms.take n) ≤ prodM ms := by
  conv => rhs; rw [← List.take_append_drop n ms, prodM_app]
  exact Nat.le_mul_of_pos_right _ (prodM_pos _)

set_option maxRecDepth 100000 in
set_option maxHeartbeats 2000000 in
theorem rleads_any (s : Stn) (z : Loc) (m : Nat) (w : World) (hs : StAt w s z) (hok : s.ok = true) (hm : m ≤ 1000000) :
    Calls Try.prog 61 #[s.val z, .int .i64 m] w fun e w' => e = .returned (.int .i64 (min (prodM (mosts s) : Int) ((m : Int) + 1))) ∧ Below w.heap.size w w' := by
  have n4 := hs.n4
  have hpl := (stn_ok hok).2.2.2.2.1
  obtain ⟨X, hs1, hB⟩ := box_stn hs
  have HOK := Lib.hid hok
  have hmI : (m : Int) ≤ 1000000 := by omega
  unfold Stn.val Stn.cells
  go_enter Try.func61, Try.ntmps61
  go_upto_region 3 with fail
  generalize w.alloc (.cells _ 28) = V at *
  obtain ⟨x0, x1, x2, x3, x4, x5, x6, x7⟩ := stn_cell0 X
  go_loopw [5, 6] (fun n i wr => ∃ k : Nat, k ≤ s.pockets.length ∧ i = .int .i64 k ∧ n = .int .i64 (prodM ((mosts s).take k) : Nat) ∧ (prodM ((mosts s).take k) : Int) ≤ 256000000 ∧ V = wr) (fun _ i _ => s.pockets.length - (intOf i).toNat)
  case atStart => exact ⟨0, Nat.zero_le _, rfl, by simp [prodM], by simp [prodM], rfl⟩
  case round =>
    obtain ⟨k, hk, rfl, rfl, hbd, rfl⟩ := hrel
    have hpos := prodM_pos ((mosts s).take k)
    by_cases hlt : k < s.pockets.length
    · have hkI : (k : Int) < s.pockets.length := by omega
      have hle := prodM_take_le (mosts s) k
      have HS := Lib.hid (prodM_take_succ HOK.out hlt)
      obtain ⟨b, off, hA, hb, hc⟩ := hs1.pockets.pk (by omega)
      obtain ⟨_, _, c2⟩ := hc k hlt
      have hmb := ((stn_ok HOK.out).2.2.2.2.2.2.2.2 _ (getD_mem ((0, 0), 0) hlt)).2
      rw [hA] at x6
      clear hc hA
      generalize (s.pockets.getD k ((0, 0), 0)).2 = y at *
      generalize hPP : prodM ((mosts s).take k) = P at *
      clear hPP
      generalize hPi : (P : Int) = Pi at *
      by_cases hPm : Pi ≤ m
      · have hmul := mul_bound (y := Pi) (x := y + 1) (a := 1000000) (b := 256) (by omega) (by omega) (by omega) (by omega)
        have hwm := IntWalk.i64_in (Pi * (y + 1)) (by omega)
        go_wp2_with fail
        go_roundw
        case rel => exact ⟨k + 1, by omega, by go_num, by rw [HS.out], by rw [HS.out]; omega, trivial⟩
        case measure => simp [intOf]; omega
      · have hmn : min (prodM (mosts s) : Int) ((m : Int) + 1) = m + 1 := by omega
        have HM := Lib.hid hmn
        have hmn2 : min Pi ((m : Int) + 1) = m + 1 := by omega
        clear hmn
        go_wp2_with fail
        go_ret
        exact ⟨by rw [HM.out]; simp, hB⟩
    · obtain rfl : k = s.pockets.length := by omega
      rw [List.take_of_length_le (by rw [mosts_len]; omega)] at *
      go_wp2_with fail
      go_ret
      exact ⟨rfl, hB⟩

/-- Whether a stone has few leads, or is rich, or is no stone. -/
def fewB (s : Stn) : Bool := !s.ok || decide (prodM (mosts s) ≤ 2000) || decide (200000 < prodM (mosts s))

set_option maxRecDepth 100000 in
set_option maxHeartbeats 2000000 in
theorem few_any (s : Stn) (z : Loc) (w : World) (hs : StAt w s z) :
    Calls Try.prog 17 #[s.val z] w fun e w' => e = .returned (.bool (fewB s)) ∧ Below w.heap.size w w' := by
  have HC : Hid (∀ W, StAt W s z → Calls Try.prog 51 #[.agg (s.cells z)] W fun e w' => e = .returned (.int .i64 (checkE s)) ∧ Below W.heap.size W w') := fun W h => rcheck_any s z W h
  have HL : Hid (∀ W, StAt W s z → s.ok = true → Calls Try.prog 61 #[.agg (s.cells z), .int .i64 (200000 : Nat)] W fun e w' => e = .returned (.int .i64 (min (prodM (mosts s) : Int) (((200000 : Nat) : Int) + 1))) ∧ Below W.heap.size W w') := fun W h h2 => rleads_any s z 200000 W h h2 (by omega)
  obtain ⟨X, hs1, hB⟩ := box_stn hs
  unfold Stn.cells at HC HL
  unfold Stn.val Stn.cells
  go_enter Try.func17, Try.ntmps17
  go_wp2_with fail
  generalize w.alloc (.cells _ 28) = V at *
  refine (HC.out _ hs1).mono ?_
  rintro e w1 ⟨rfl, hb1⟩
  have hB1 := hB.trans (hb1.mono hB.size)
  have X1 := X.keep hb1
  obtain ⟨x0, x1, x2, x3, x4, x5, x6, x7⟩ := stn_cell0 X1
  by_cases hok : s.ok = true
  · have hce : checkE s = 0 := by simp [checkE, hok]
    rw [hce]
    go_wp2_with fail
    refine (HL.out _ (hs1.below hb1) hok).mono ?_
    rintro e w2 ⟨rfl, hb2⟩
    have HF : Hid (fewB s = (decide (min (prodM (mosts s) : Int) (((200000 : Nat) : Int) + 1) ≤ 2000) || decide (200000 < min (prodM (mosts s) : Int) (((200000 : Nat) : Int) + 1)))) := by
      refine Lib.hid ?_
      simp only [fewB, hok, Bool.not_true, Bool.false_or]
      congr 1 <;> apply decide_eq_decide.2 <;> omega
    generalize min (prodM (mosts s) : Int) (((200000 : Nat) : Int) + 1) = n at *
    go_wp2_with fail
    all_goals
      go_ret
      exact ⟨ret_bool (by first | (rw [HF.out]; done) | (rw [HF.out]; simp; done) | (rw [HF.out]; simp; omega)), hB1.trans (hb2.mono hB1.size)⟩
  · have hce : checkE s = 60 := by simp [checkE, hok]
    rw [hce]
    go_wp2_with fail
    go_ret
    exact ⟨ret_bool (by simp [fewB, hok]), hB1⟩

end Go.Proofs.Ythmngnfdfelkeaa
namespace Go.Proofs.Ythmngnfdfelkeaa
open Go.RowKit

theorem inM_of_get : ∀ {ms l : List Nat}, l.length = ms.length → (∀ i, i < l.length → l.getD i 0 ≤ ms.getD i 0) → inM ms l
  | [], [], _, _ => trivial
  | [], _ :: _, h, _ => by simp at h
  | _ :: _, [], h, _ => by simp at h
  | m :: ms, d :: l, h, hb => by
    refine ⟨by simpa using hb 0 (by simp), inM_of_get (by simpa using h) fun i hi => ?_⟩
    have := hb (i + 1) (by simpa using hi)
    simpa using this

theorem lead_rank {s : Stn} (h : s.ok = true) {l : List Int} (hl : leadP s l) : ∃ k, k < prodM (mosts s) ∧ leadN s k = l := by
  obtain ⟨h1, h2⟩ := hl
  have hin : inM (mosts s) (l.map Int.toNat) := inM_of_get (by simp [mosts_len, h1]) fun i hi => by
    have hi' : i < l.length := by simpa using hi
    have h3 := h2 i hi'
    rw [mosts_get h (by omega)] at h3
    have e : (l.map Int.toNat).getD i 0 = (l.getD i 0).toNat := by
      rw [List.getD_eq_getElem?_getD, List.getD_eq_getElem?_getD, List.getElem?_map, List.getElem?_eq_getElem hi']
      rfl
    rw [e]
    omega
  refine ⟨_, rank_lt hin, ?_⟩
  rw [leadN, leadAt_rank hin]
  unfold toI
  rw [List.map_map]
  apply List.ext_getElem
  · simp
  · intro i hi1 hi2
    have h3 := (h2 i hi2).1
    rw [getD_get _ _ hi2] at h3
    simp
    omega

theorem many_of {s : Stn} : ∀ n k, k < n → stillB s (leadN s k) = true → 0 < manyN s n ∧ sumL (bestL s n) ≤ sumL (leadN s k)
  | n + 1, k, hk, h => by
    by_cases e : k = n
    · subst e
      simp only [manyN, bestL, h, if_true]
      refine ⟨by omega, ?_⟩
      by_cases hc : manyN s k = 0 ∨ sumL (leadN s k) < sumL (bestL s k)
      · rw [if_pos hc]; omega
      · rw [if_neg hc]; omega
    · obtain ⟨h1, h2⟩ := many_of n k (by omega) h
      simp only [manyN, bestL]
      refine ⟨by split <;> omega, ?_⟩
      split
      · split
        · rename_i h4
          rcases h4 with h4 | h4 <;> omega
        · exact h2
      · exact h2

theorem best_of_many {s : Stn} : ∀ n, 0 < manyN s n → ∃ j, j < n ∧ bestL s n = leadN s j ∧ stillB s (leadN s j) = true
  | n + 1, h => by
    simp only [manyN, bestL] at h ⊢
    by_cases hs : stillB s (leadN s n) = true
    · rw [if_pos hs]
      by_cases hc : manyN s n = 0 ∨ sumL (leadN s n) < sumL (bestL s n)
      · rw [if_pos hc]
        exact ⟨n, by omega, rfl, hs⟩
      · rw [if_neg hc]
        have hpos : 0 < manyN s n := by
          rcases Nat.eq_zero_or_pos (manyN s n) with h0 | h0
          · exact absurd (.inl h0) hc
          · exact h0
        obtain ⟨j, h1, h2, h3⟩ := best_of_many n hpos
        exact ⟨j, by omega, h2, h3⟩
    · rw [if_neg hs] at h ⊢
      obtain ⟨j, h1, h2, h3⟩ := best_of_many n h
      exact ⟨j, by omega, h2, h3⟩

theorem leadN_ok {s : Stn} (h : s.ok = true) {k : Nat} (hk : k < prodM (mosts s)) : leadB s (leadN s k) = true := by
  rw [leadB_iff]
  have hl : (leadN s k).length = s.pockets.length := by rw [leadN, toI_len, leadAt_len, mosts_len]
  refine ⟨hl, fun i hi => ?_⟩
  have h3 := inM_get (leadAt_in hk) i (by rw [leadAt_len, mosts_len]; omega)
  rw [mosts_get h (by omega), leadN, toI_get]
  omega

/-- What of a stone the law asks. -/
def balS (s : Stn) : Prop :=
  (((leadR s).2 == 0) = false ∧ ((leadR s).2 == 61) = false ∧ (countR s).2 = (leadR s).2) ∨
  ((leadR s).2 = 61 ∧ countR s = (0, 0) ∧ ∀ l, (balR s l).2 = 0 → (balR s l).1 = false) ∨
  ((leadR s).2 = 0 ∧ (countR s).2 = 0 ∧ 1 ≤ (countR s).1 ∧ balR s (leadR s).1 = (true, 0) ∧ ∀ l, (balR s l).2 = 0 → (balR s l).1 = true → sumL (leadR s).1 ≤ sumL l ∧ l.length ≤ 8 ∧ ∀ x ∈ l, 0 ≤ x ∧ x ≤ 255)

theorem balS_all (s : Stn) : balS s := by
  unfold balS leadR countR
  by_cases h : s.ok = true
  · simp only [h, if_true]
    by_cases hp : prodM (mosts s) ≤ 200000
    · simp only [hp, if_true]
      by_cases hm : manyN s (prodM (mosts s)) = 0
      · right; left
        simp only [hm, if_true]
        refine ⟨trivial, rfl, fun l h2 => ?_⟩
        unfold balR at h2 ⊢
        simp only [h, if_true] at h2 ⊢
        by_cases hl : leadB s l = true
        · simp only [hl, if_true] at h2 ⊢
          obtain ⟨k, hk, rfl⟩ := lead_rank h ((leadB_iff s l).1 hl)
          cases hb : stillB s (leadN s k)
          · rfl
          · have := (many_of _ k hk hb).1
            omega
        · simp [hl] at h2
      · right; right
        simp only [hm, if_false]
        obtain ⟨j, hj, hb, hs⟩ := best_of_many (s := s) (prodM (mosts s)) (by omega)
        refine ⟨trivial, trivial, by omega, ?_, fun l h2 h3 => ?_⟩
        · rw [hb]
          simp [balR, h, leadN_ok h hj, hs]
        · unfold balR at h2 h3
          simp only [h, if_true] at h2 h3
          by_cases hl : leadB s l = true
          · simp only [hl, if_true] at h2 h3
            obtain ⟨k, hk, rfl⟩ := lead_rank h ((leadB_iff s l).1 hl)
            refine ⟨(many_of _ k hk h3).2, ?_⟩
            obtain ⟨p1, p2⟩ := (leadB_iff s _).1 hl
            obtain ⟨_, _, _, _, h5, _, _, _, hpk⟩ := stn_ok h
            refine ⟨by omega, fun x hx => ?_⟩
            obtain ⟨i, hi, rfl⟩ := List.getElem_of_mem hx
            have h6 := p2 i hi
            rw [getD_get _ _ hi] at h6
            have h4 := (hpk _ (getD_mem ((0, 0), 0) (show i < s.pockets.length by omega))).2.2
            omega
          · simp [hl] at h2
    · left
      simp [hp]
  · left
    simp [h]

end Go.Proofs.Ythmngnfdfelkeaa
