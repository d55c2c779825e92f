/-
  What is proved: the contract of stones.Valid.
-/
import Derived.Test.YtkikjmkpndmdcaaKit
import Derived.Test.YtkikjmkpndmdcaaMix
namespace Go.Proofs.Ytkikjmkpndmdcaa
open Go.RowKit

/-- The first number that is bad, or -1. -/
def firstBad (bad : Int → Bool) (xs : List Int) : Int := match xs.findIdx? bad with | some i => i | none => -1
theorem firstBad_hit (bad : Int → Bool) (xs : List Int) (k : Nat) (hk : k < xs.length) (h : ∀ j (h : j < xs.length), j < k → bad xs[j] = false) (hb : bad xs[k] = true) : firstBad bad xs = k := by
  have e : xs.findIdx? bad = some k := by
    rw [List.findIdx?_eq_some_iff_getElem]
    exact ⟨hk, hb, fun j hj => by simp [h j (by omega) hj]⟩
  simp [firstBad, e]
theorem firstBad_none (bad : Int → Bool) (xs : List Int) (h : ∀ j (h : j < xs.length), j < xs.length → bad xs[j] = false) : firstBad bad xs = -1 := by
  have e : xs.findIdx? bad = none := by
    rw [List.findIdx?_eq_none_iff]
    intro m hm
    obtain ⟨j, hj, rfl⟩ := List.getElem_of_mem hm
    simp [h j hj hj]
  simp [firstBad, e]
theorem firstBad_any (bad : Int → Bool) (xs : List Int) : decide (firstBad bad xs ≥ 0) = xs.any bad := by
  unfold firstBad
  cases e : xs.findIdx? bad with
  | none =>
    rw [List.findIdx?_eq_none_iff] at e
    have h : xs.any bad = false := by rw [List.any_eq_false]; intro m hm; simpa using e m hm
    simp [h]
  | some i =>
    rw [List.findIdx?_eq_some_iff_getElem] at e
    obtain ⟨hi, h1, _⟩ := e
    have h : xs.any bad = true := by
      rw [List.any_eq_true]
      exact ⟨xs[i], List.getElem_mem hi, h1⟩
    simp [h]

theorem not_any (bad : Int → Bool) (xs : List Int) : (!xs.any bad) = xs.all fun x => !bad x := by
  induction xs with
  | nil => rfl
  | cons x xs ih => simp [← ih]

theorem swithin_any (n lo hi : Int) (w : World) :
    Calls Try.prog 33 #[.int .i64 n, .int .i64 lo, .int .i64 hi] w fun e w' => e = .returned (.bool (inB n lo hi)) ∧ w = w' := by
  go_enter Try.func33, Try.ntmps33
  go_wp2
  all_goals
    go_ret
    exact ⟨ret_bool (by simp [inB]; try omega), rfl⟩

theorem kind_any (n : Int) (w : World) :
    Calls Try.prog 63 #[.int .i64 n] w fun e w' => e = .returned (.bool (inB n 0 2)) ∧ w = w' := by
  by_cases h0 : n = 0
  · subst h0
    go_enter Try.func63, Try.ntmps63
    go_wp2
    go_ret
    exact ⟨ret_bool (by decide), rfl⟩
  · by_cases h1 : n = 1
    · subst h1
      go_enter Try.func63, Try.ntmps63
      go_wp2
      go_ret
      exact ⟨ret_bool (by decide), rfl⟩
    · by_cases h2 : n = 2
      · subst h2
        go_enter Try.func63, Try.ntmps63
        go_wp2
        go_ret
        exact ⟨ret_bool (by decide), rfl⟩
      · have e0 : (n == 0) = false := by simpa using h0
        have e1 : (n == 1) = false := by simpa using h1
        have e2 : (n == 2) = false := by simpa using h2
        go_enter Try.func63, Try.ntmps63
        go_wp2
        go_ret
        exact ⟨ret_bool (by simp [inB]; omega), rfl⟩

theorem valid1_any (n : Int) (w : World) :
    Calls Try.prog 62 #[.int .i64 n] w fun e w' => e = .returned (.bool (!inB n 0 2)) ∧ w = w' := by
  go_enter Try.func62, Try.ntmps62
  go_wp2_with (go_at_call 63; refine (kind_any _ _).mono ?_; rintro e w1 ⟨rfl, rfl⟩)
  go_ret
  exact ⟨rfl, rfl⟩

set_option maxHeartbeats 1000000 in
theorem index133_any (A : Option Addr) (c : Nat) (xs : List Int) (w : World) (hL : RowAt w A (intCells xs)) (hn : xs.length ≤ 9223372036854775807) :
    Calls Try.prog 78 #[.slice A xs.length c, .func (.func 62) #[] #[]] w fun e w' => e = .returned (.int .i64 (firstBad (fun n => !inB n 0 2) xs)) ∧ w = w' := by
  go_enter Try.func78, Try.ntmps78
  go_wp2
  go_loop [8] (fun i => ∃ k : Nat, k ≤ xs.length ∧ i = .int .i64 k ∧ Hid (∀ j (h : j < xs.length), j < k → (!inB xs[j] 0 2) = false)) (fun i => xs.length - (intOf i).toNat)
  case atStart => exact ⟨0, Nat.zero_le _, rfl, fun j _ h => absurd h (by omega)⟩
  case round =>
    obtain ⟨k, hk, rfl, hall⟩ := hrel
    by_cases hlt : k < xs.length
    · obtain ⟨b', off, hA, hb', hc⟩ := hL.int (by omega)
      have c0 := hc k hlt
      clear hc
      rw [hA]
      clear hA
      have hv := valid1_any xs[k] w
      have HV := Lib.hid (fun j (hj : j < xs.length) (hjk : j < k + 1) (hg : (!inB xs[k] 0 2) = false) => show (!inB xs[j] 0 2) = false by
        rcases Nat.lt_or_ge j k with h | h
        · exact hall.out j hj h
        · obtain rfl : j = k := by omega
          exact hg)
      cases hb : (!inB xs[k] 0 2)
      · rw [hb] at hv
        have HB := Lib.hid hb
        clear hb
        go_wp2_with (go_at_call 62; refine hv.mono ?_; rintro e w1 ⟨rfl, rfl⟩)
        go_round
        case rel => exact ⟨k + 1, by omega, by go_num, fun j hj hjk => HV.out j hj hjk HB.out⟩
        case measure => simp [intOf]; omega
      · rw [hb] at hv
        have HB := Lib.hid hb
        clear hb
        go_wp2_with (go_at_call 62; refine hv.mono ?_; rintro e w1 ⟨rfl, rfl⟩)
        go_ret
        exact ⟨ret_int (firstBad_hit _ xs k hlt hall.out HB.out).symm, rfl⟩
    · have : k = xs.length := by omega
      subst this
      go_wp2
      go_ret
      exact ⟨ret_int (firstBad_none _ xs hall.out).symm, rfl⟩

theorem contains133_any (A : Option Addr) (c : Nat) (xs : List Int) (w : World) (hL : RowAt w A (intCells xs)) (hn : xs.length ≤ 9223372036854775807) :
    Calls Try.prog 61 #[.slice A xs.length c, .func (.func 62) #[] #[]] w fun e w' => e = .returned (.bool (xs.any (fun n => !inB n 0 2))) ∧ w = w' := by
  go_enter Try.func61, Try.ntmps61
  go_wp2_with (go_at_call 78; refine (index133_any _ _ _ _ hL hn).mono ?_; rintro e w1 ⟨rfl, rfl⟩)
  go_ret
  exact ⟨ret_bool (firstBad_any _ xs), rfl⟩

/-- A face. -/
structure Fac where
  eye : Int
  rings : Int
  sec : Int
  kinds : List Int
/-- Where its kinds lie. -/
def Fac.val (f : Fac) (A : Option Addr) (c : Nat) : Value := .agg #[.int .i64 f.eye, .int .i64 f.rings, .int .i64 f.sec, .slice A f.kinds.length c]
def Fac.ok (f : Fac) : Bool := inB f.eye 1 16 && inB f.rings 1 24 && inB f.sec 2 96 && (f.kinds.length : Int) == f.rings * f.sec && f.kinds.all fun k => inB k 0 2

theorem fac_ok {f : Fac} (h : f.ok = true) : 1 ≤ f.eye ∧ f.eye ≤ 16 ∧ 1 ≤ f.rings ∧ f.rings ≤ 24 ∧ 2 ≤ f.sec ∧ f.sec ≤ 96 ∧ (f.kinds.length : Int) = f.rings * f.sec ∧ f.kinds.length ≤ 2304 := by
  simp only [Fac.ok, Bool.and_eq_true, inB, decide_eq_true_eq, beq_iff_eq] at h
  obtain ⟨⟨⟨⟨h1, h2⟩, h3⟩, h4⟩, _⟩ := h
  refine ⟨h1.1, h1.2, h2.1, h2.2, h3.1, h3.2, h4, ?_⟩
  have : f.rings * f.sec ≤ 24 * 96 := Int.mul_le_mul h2.2 h3.2 (by omega) (by omega)
  omega

attribute [local go_sem] Fac.val
attribute [local go_sem ↓] max_int min_int

set_option maxRecDepth 100000 in
set_option maxHeartbeats 2000000 in
theorem valid_any (f : Fac) (A : Option Addr) (c : Nat) (w : World) (hL : RowAt w A (intCells f.kinds)) (hn : f.kinds.length ≤ 9223372036854775807) :
    Calls Try.prog 38 #[f.val A c] w fun e w' => e = .returned (.bool f.ok) ∧ Below w.heap.size w w' := by
  obtain ⟨eye, rings, sec, kinds⟩ := f
  simp only [Fac.val, Fac.ok] at *
  have hB : Below w.heap.size w (w.alloc (.cells #[.int .i64 eye, .int .i64 rings, .int .i64 sec, .slice A kinds.length c] 30)) := (Below.refl _ _).alloc (Nat.le_refl _) _
  by_cases h1 : inB eye 1 16 = true
  · by_cases h2 : inB rings 1 24 = true
    · by_cases h3 : inB sec 2 96 = true
      · have h2' := h2
        have h3' := h3
        simp only [inB, decide_eq_true_eq] at h2' h3'
        have hm : 0 ≤ rings * sec ∧ rings * sec ≤ 24 * 96 := ⟨Int.mul_nonneg (by omega) (by omega), Int.mul_le_mul (by omega) (by omega) (by omega) (by omega)⟩
        by_cases h4 : (kinds.length : Int) = rings * sec
        · have h4b : ((kinds.length : Int) == rings * sec) = true := by simpa using h4
          have HV := Lib.hid (not_any (fun n => !inB n 0 2) kinds)
          rw [h1, h2, h3, h4b]
          clear h4b
          have hne : ((kinds.length : Int) != rings * sec) = false := by simp [h4]
          clear h4
          go_enter Try.func38, Try.ntmps38
          go_wp2_with (first | (go_at_call 33; refine (swithin_any _ _ _ _).mono ?_; rintro e w' ⟨rfl, rfl⟩) | (go_at_call 61; refine (contains133_any _ _ _ _ (hL.alloc _) hn).mono ?_; rintro e w' ⟨rfl, rfl⟩))
          go_ret
          exact ⟨ret_bool (by rw [HV.out]; simp), hB⟩
        · have h4b : ((kinds.length : Int) == rings * sec) = false := by simpa using h4
          rw [h4b]
          have hne : ((kinds.length : Int) != rings * sec) = true := by simp [h4]
          clear h4 h4b
          go_enter Try.func38, Try.ntmps38
          go_wp2_with (go_at_call 33; refine (swithin_any _ _ _ _).mono ?_; rintro e w' ⟨rfl, rfl⟩)
          go_ret
          exact ⟨ret_bool (by simp), hB⟩
      · have h3' : inB sec 2 96 = false := by simpa using h3
        rw [h3']
        go_enter Try.func38, Try.ntmps38
        go_wp2_with (go_at_call 33; refine (swithin_any _ _ _ _).mono ?_; rintro e w' ⟨rfl, rfl⟩)
        go_ret
        exact ⟨ret_bool (by simp), hB⟩
    · have h2' : inB rings 1 24 = false := by simpa using h2
      rw [h2']
      go_enter Try.func38, Try.ntmps38
      go_wp2_with (go_at_call 33; refine (swithin_any _ _ _ _).mono ?_; rintro e w' ⟨rfl, rfl⟩)
      go_ret
      exact ⟨ret_bool (by simp), hB⟩
  · have h1' : inB eye 1 16 = false := by simpa using h1
    rw [h1']
    go_enter Try.func38, Try.ntmps38
    go_wp2_with (go_at_call 33; refine (swithin_any _ _ _ _).mono ?_; rintro e w' ⟨rfl, rfl⟩)
    go_ret
    exact ⟨ret_bool (by simp), hB⟩


end Go.Proofs.Ytkikjmkpndmdcaa
