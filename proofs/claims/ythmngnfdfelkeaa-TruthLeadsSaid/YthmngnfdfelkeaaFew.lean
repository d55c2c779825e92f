/-
  What is proved: the contracts of the two sums, of the reference's Leads, and of few.
-/
import Derived.Test.YthmngnfdfelkeaaLeadT
import Derived.Test.YthmngnfdfelkeaaRefB
namespace Go.Proofs.Ythmngnfdfelkeaa
open Go.RowKit
attribute [local go_sem ↓] max_int min_int

set_option maxRecDepth 100000 in
set_option maxHeartbeats 2000000 in
theorem lsum_any (A : Option Addr) (c : Nat) (l : List Int) (w : World) (hL : RowAt w A (intCells l)) (hn : l.length ≤ 1000000) (hb : ∀ x ∈ l, -1000000000 ≤ x ∧ x ≤ 1000000000) :
    Calls Try.prog 34 #[.slice A l.length c] w fun e w' => e = .returned (.int .i64 (sumF l l.length)) ∧ w = w' := by
  have HB := Lib.hid (And.intro hL hb)
  clear hL hb
  go_enter Try.func34, Try.ntmps34
  go_upto_region 3 with fail
  go_loopw [3, 4] (fun n i wr => ∃ k : Nat, k ≤ l.length ∧ i = .int .i64 k ∧ n = .int .i64 (sumF l k) ∧ w = wr) (fun _ i _ => l.length - (intOf i).toNat)
  case atStart => exact ⟨0, Nat.zero_le _, rfl, rfl, rfl⟩
  case round =>
    obtain ⟨k, hk, rfl, rfl, rfl⟩ := hrel
    by_cases hlt : k < l.length
    · have hkI : (k : Int) < l.length := by omega
      obtain ⟨b, off, rfl, hb, hc⟩ := HB.out.1.intD (by omega)
      have d0 := hc k hlt
      have h1 := sumF_bound HB.out.2 k hk
      have h2 := HB.out.2 _ (getD_mem 0 hlt)
      have HS : Hid (sumF l (k + 1) = sumF l k + l.getD k 0) := rfl
      clear hc
      generalize sumF l k = s at *
      generalize l.getD k 0 = x at *
      go_wp2_with fail
      go_roundw
      case rel => exact ⟨k + 1, by omega, by go_num, by rw [HS.out], trivial⟩
      case measure => simp [intOf]; omega
    · obtain rfl : k = l.length := by omega
      go_wp2_with fail
      go_ret
      exact ⟨rfl, rfl⟩

set_option maxRecDepth 100000 in
set_option maxHeartbeats 2000000 in
theorem rsum_any (A : Option Addr) (c : Nat) (l : List Int) (w : World) (hL : RowAt w A (intCells l)) (hn : l.length ≤ 1000000) (hb : ∀ x ∈ l, -1000000000 ≤ x ∧ x ≤ 1000000000) :
    Calls Try.prog 63 #[.slice A l.length c] w fun e w' => e = .returned (.int .i64 (sumF l l.length)) ∧ w = w' := by
  have HB := Lib.hid (And.intro hL hb)
  clear hL hb
  go_enter Try.func63, Try.ntmps63
  go_upto_region 3 with fail
  go_loopw [3, 4] (fun n i wr => ∃ k : Nat, k ≤ l.length ∧ i = .int .i64 k ∧ n = .int .i64 (sumF l k) ∧ w = wr) (fun _ i _ => l.length - (intOf i).toNat)
  case atStart => exact ⟨0, Nat.zero_le _, rfl, rfl, rfl⟩
  case round =>
    obtain ⟨k, hk, rfl, rfl, rfl⟩ := hrel
    by_cases hlt : k < l.length
    · have hkI : (k : Int) < l.length := by omega
      obtain ⟨b, off, rfl, hb, hc⟩ := HB.out.1.intD (by omega)
      have d0 := hc k hlt
      have h1 := sumF_bound HB.out.2 k hk
      have h2 := HB.out.2 _ (getD_mem 0 hlt)
      have HS : Hid (sumF l (k + 1) = sumF l k + l.getD k 0) := rfl
      clear hc
      generalize sumF l k = s at *
      generalize l.getD k 0 = x at *
      go_wp2_with fail
      go_roundw
      case rel => exact ⟨k + 1, by omega, by go_num, by rw [HS.out], trivial⟩
      case measure => simp [intOf]; omega
    · obtain rfl : k = l.length := by omega
      go_wp2_with fail
      go_ret
      exact ⟨rfl, rfl⟩

theorem prodM_take_succ {s : Stn} (h : s.ok = true) {n : Nat} (hn : n < s.pockets.length) : ((prodM ((mosts s).take (n + 1)) : Nat) : Int) = (prodM ((mosts s).take n) : Nat) * ((s.pockets.getD n ((0, 0), 0)).2 + 1) := by
  have hl : n < (mosts s).length := by rw [mosts_len]; omega
  have e : (mosts s).take (n + 1) = (mosts s).take n ++ [(mosts s).getD n 0] := by
    rw [List.take_add_one, List.getElem?_eq_getElem hl, getD_get _ _ hl]; rfl
  rw [e, prodM_app, mosts_get h hn]
  simp [prodM]
theorem prodM_take_le (ms : List Nat) (n : Nat) : prodM (ms.take n) ≤ prodM ms := by
  conv => rhs; rw [← List.take_append_drop n ms, prodM_app]
  exact Nat.le_mul_of_pos_right _ (prodM_pos _)

set_option maxRecDepth 100000 in
set_option maxHeartbeats 2000000 in
theorem rleads_any (s : Stn) (z : Loc) (m : Nat) (w : World) (hs : StAt w s z) (hok : s.ok = true) (hm : m ≤ 1000000) :
    Calls Try.prog 61 #[s.val z, .int .i64 m] w fun e w' => e = .returned (.int .i64 (min (prodM (mosts s) : Int) ((m : Int) + 1))) ∧ Below w.heap.size w w' := by
  have n4 := hs.n4
  have hpl := (stn_ok hok).2.2.2.2.1
  obtain ⟨X, hs1, hB⟩ := box_stn hs
  have HOK := Lib.hid hok
  have hmI : (m : Int) ≤ 1000000 := by omega
  unfold Stn.val Stn.cells
  go_enter Try.func61, Try.ntmps61
  go_upto_region 3 with fail
  generalize w.alloc (.cells _ 28) = V at *
  obtain ⟨x0, x1, x2, x3, x4, x5, x6, x7⟩ := stn_cell0 X
  go_loopw [5, 6] (fun n i wr => ∃ k : Nat, k ≤ s.pockets.length ∧ i = .int .i64 k ∧ n = .int .i64 (prodM ((mosts s).take k) : Nat) ∧ (prodM ((mosts s).take k) : Int) ≤ 256000000 ∧ V = wr) (fun _ i _ => s.pockets.length - (intOf i).toNat)
  case atStart => exact ⟨0, Nat.zero_le _, rfl, by simp [prodM], by simp [prodM], rfl⟩
  case round =>
    obtain ⟨k, hk, rfl, rfl, hbd, rfl⟩ := hrel
    have hpos := prodM_pos ((mosts s).take k)
    by_cases hlt : k < s.pockets.length
    · have hkI : (k : Int) < s.pockets.length := by omega
      have hle := prodM_take_le (mosts s) k
      have HS := Lib.hid (prodM_take_succ HOK.out hlt)
      obtain ⟨b, off, hA, hb, hc⟩ := hs1.pockets.pk (by omega)
      obtain ⟨_, _, c2⟩ := hc k hlt
      have hmb := ((stn_ok HOK.out).2.2.2.2.2.2.2.2 _ (getD_mem ((0, 0), 0) hlt)).2
      rw [hA] at x6
      clear hc hA
      generalize (s.pockets.getD k ((0, 0), 0)).2 = y at *
      generalize hPP : prodM ((mosts s).take k) = P at *
      clear hPP
      generalize hPi : (P : Int) = Pi at *
      by_cases hPm : Pi ≤ m
      · have hmul := mul_bound (y := Pi) (x := y + 1) (a := 1000000) (b := 256) (by omega) (by omega) (by omega) (by omega)
        have hwm := IntWalk.i64_in (Pi * (y + 1)) (by omega)
        go_wp2_with fail
        go_roundw
        case rel => exact ⟨k + 1, by omega, by go_num, by rw [HS.out], by rw [HS.out]; omega, trivial⟩
        case measure => simp [intOf]; omega
      · have hmn : min (prodM (mosts s) : Int) ((m : Int) + 1) = m + 1 := by omega
        have HM := Lib.hid hmn
        have hmn2 : min Pi ((m : Int) + 1) = m + 1 := by omega
        clear hmn
        go_wp2_with fail
        go_ret
        exact ⟨by rw [HM.out]; simp, hB⟩
    · obtain rfl : k = s.pockets.length := by omega
      rw [List.take_of_length_le (by rw [mosts_len]; omega)] at *
      go_wp2_with fail
      go_ret
      exact ⟨rfl, hB⟩

/-- Whether a stone has few leads, or is rich, or is no stone. -/
def fewB (s : Stn) : Bool := !s.ok || decide (prodM (mosts s) ≤ 2000) || decide (200000 < prodM (mosts s))

set_option maxRecDepth 100000 in
set_option maxHeartbeats 2000000 in
theorem few_any (s : Stn) (z : Loc) (w : World) (hs : StAt w s z) :
    Calls Try.prog 17 #[s.val z] w fun e w' => e = .returned (.bool (fewB s)) ∧ Below w.heap.size w w' := by
  have HC : Hid (∀ W, StAt W s z → Calls Try.prog 51 #[.agg (s.cells z)] W fun e w' => e = .returned (.int .i64 (checkE s)) ∧ Below W.heap.size W w') := fun W h => rcheck_any s z W h
  have HL : Hid (∀ W, StAt W s z → s.ok = true → Calls Try.prog 61 #[.agg (s.cells z), .int .i64 (200000 : Nat)] W fun e w' => e = .returned (.int .i64 (min (prodM (mosts s) : Int) (((200000 : Nat) : Int) + 1))) ∧ Below W.heap.size W w') := fun W h h2 => rleads_any s z 200000 W h h2 (by omega)
  obtain ⟨X, hs1, hB⟩ := box_stn hs
  unfold Stn.cells at HC HL
  unfold Stn.val Stn.cells
  go_enter Try.func17, Try.ntmps17
  go_wp2_with fail
  generalize w.alloc (.cells _ 28) = V at *
  refine (HC.out _ hs1).mono ?_
  rintro e w1 ⟨rfl, hb1⟩
  have hB1 := hB.trans (hb1.mono hB.size)
  have X1 := X.keep hb1
  obtain ⟨x0, x1, x2, x3, x4, x5, x6, x7⟩ := stn_cell0 X1
  by_cases hok : s.ok = true
  · have hce : checkE s = 0 := by simp [checkE, hok]
    rw [hce]
    go_wp2_with fail
    refine (HL.out _ (hs1.below hb1) hok).mono ?_
    rintro e w2 ⟨rfl, hb2⟩
    have HF : Hid (fewB s = (decide (min (prodM (mosts s) : Int) (((200000 : Nat) : Int) + 1) ≤ 2000) || decide (200000 < min (prodM (mosts s) : Int) (((200000 : Nat) : Int) + 1)))) := by
      refine Lib.hid ?_
      simp only [fewB, hok, Bool.not_true, Bool.false_or]
      congr 1 <;> apply decide_eq_decide.2 <;> omega
    generalize min (prodM (mosts s) : Int) (((200000 : Nat) : Int) + 1) = n at *
    go_wp2_with fail
    all_goals
      go_ret
      exact ⟨ret_bool (by first | (rw [HF.out]; done) | (rw [HF.out]; simp; done) | (rw [HF.out]; simp; omega)), hB1.trans (hb2.mono hB1.size)⟩
  · have hce : checkE s = 60 := by simp [checkE, hok]
    rw [hce]
    go_wp2_with fail
    go_ret
    exact ⟨ret_bool (by simp [fewB, hok]), hB1⟩

end Go.Proofs.Ythmngnfdfelkeaa
