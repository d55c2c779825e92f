/-
  What is proved: the contract of most, for each of the three functions that are handed to it.
-/
import Derived.Test.YthmngnfdfelkeaaGap
namespace Go.Proofs.Ythmngnfdfelkeaa
open Go.RowKit
attribute [local go_sem ↓] max_int min_int

/-- The greatest of the first n. -/
def mostF (F : Nat → Int) : Nat → Int
  | 0 => F 0
  | k + 1 => max (mostF F k) (F k)

set_option maxRecDepth 100000 in
set_option maxHeartbeats 2000000 in
theorem most121_any (a b : Nat) (F : Nat → Int) (n : Nat) (h1 : 1 ≤ n) (hn : n ≤ 100000) (w : World)
    (HC0 : ∀ (W : World) (i : Nat), Below w.heap.size w W → i < n → Calls Try.prog 121 #[.int .i64 i, .pointer (some ⟨a, 0, none⟩), .pointer (some ⟨b, 0, none⟩)] W fun e w' => e = .returned (.int .i64 (F i)) ∧ Below W.heap.size W w') :
    Calls Try.prog 68 #[.int .i64 n, .func (.func 121) #[] #[.pointer (some ⟨a, 0, none⟩), .pointer (some ⟨b, 0, none⟩)]] w fun e w' => e = .returned (.int .i64 (mostF F n)) ∧ Below w.heap.size w w' := by
  have HC := Lib.hid HC0
  clear HC0
  have hB := Below.refl w.heap.size w
  have hF1 : mostF F 1 = F 0 := by simp [mostF]
  have HF := Lib.hid hF1
  clear hF1
  have HS : Hid (∀ k, mostF F (k + 1) = max (mostF F k) (F k)) := fun _ => rfl
  go_enter Try.func68, Try.ntmps68
  go_wp2_with (go_at_call 121; refine (HC.out _ 0 hB (by omega)).mono ?_; rintro e w1 ⟨rfl, hb1⟩)
  replace hB := hB.trans (hb1.mono hB.size)
  clear hb1
  go_loopw [5, 6] (fun out i wr => ∃ k : Nat, 1 ≤ k ∧ k ≤ n ∧ i = .int .i64 k ∧ out = .int .i64 (mostF F k) ∧ Below w.heap.size w wr) (fun _ i _ => n - (intOf i).toNat)
  case atStart => exact ⟨1, by omega, h1, rfl, by rw [HF.out], hB⟩
  case round =>
    clear hB
    obtain ⟨k, hk0, hk, rfl, rfl, hB⟩ := hrel
    by_cases hlt : k < n
    · have hI : (k : Int) < n := by omega
      generalize hm : mostF F k = m at *
      generalize hf : F k = f at *
      have HX : Hid (Calls Try.prog 121 #[.int .i64 k, .pointer (some ⟨a, 0, none⟩), .pointer (some ⟨b, 0, none⟩)] wr fun e w' => e = .returned (.int .i64 f) ∧ Below wr.heap.size wr w') := by rw [← hf]; exact HC.out wr k hB hlt
      have HM : Hid (mostF F (k + 1) = max m f) := by rw [HS.out, hm, hf]; exact rfl
      clear hm hf HC
      go_wp2_with (go_at_call 121; refine (HX.out).mono ?_; rintro e w2 ⟨rfl, hb2⟩)
      replace hB := hB.trans (hb2.mono hB.size)
      go_roundw
      case rel => exact ⟨k + 1, by omega, by omega, by go_num, by rw [HM.out], hB⟩
      case measure => simp [intOf]; omega
    · obtain rfl : k = n := by omega
      go_wp2_with fail
      go_ret
      exact ⟨rfl, hB⟩


set_option maxRecDepth 100000 in
set_option maxHeartbeats 2000000 in
theorem most69_any (a b : Nat) (F : Nat → Int) (n : Nat) (h1 : 1 ≤ n) (hn : n ≤ 100000) (w : World)
    (HC0 : ∀ (W : World) (i : Nat), Below w.heap.size w W → i < n → Calls Try.prog 69 #[.int .i64 i, .pointer (some ⟨a, 0, none⟩), .pointer (some ⟨b, 0, none⟩)] W fun e w' => e = .returned (.int .i64 (F i)) ∧ Below W.heap.size W w') :
    Calls Try.prog 68 #[.int .i64 n, .func (.func 69) #[] #[.pointer (some ⟨a, 0, none⟩), .pointer (some ⟨b, 0, none⟩)]] w fun e w' => e = .returned (.int .i64 (mostF F n)) ∧ Below w.heap.size w w' := by
  have HC := Lib.hid HC0
  clear HC0
  have hB := Below.refl w.heap.size w
  have hF1 : mostF F 1 = F 0 := by simp [mostF]
  have HF := Lib.hid hF1
  clear hF1
  have HS : Hid (∀ k, mostF F (k + 1) = max (mostF F k) (F k)) := fun _ => rfl
  go_enter Try.func68, Try.ntmps68
  go_wp2_with (go_at_call 69; refine (HC.out _ 0 hB (by omega)).mono ?_; rintro e w1 ⟨rfl, hb1⟩)
  replace hB := hB.trans (hb1.mono hB.size)
  clear hb1
  go_loopw [5, 6] (fun out i wr => ∃ k : Nat, 1 ≤ k ∧ k ≤ n ∧ i = .int .i64 k ∧ out = .int .i64 (mostF F k) ∧ Below w.heap.size w wr) (fun _ i _ => n - (intOf i).toNat)
  case atStart => exact ⟨1, by omega, h1, rfl, by rw [HF.out], hB⟩
  case round =>
    clear hB
    obtain ⟨k, hk0, hk, rfl, rfl, hB⟩ := hrel
    by_cases hlt : k < n
    · have hI : (k : Int) < n := by omega
      generalize hm : mostF F k = m at *
      generalize hf : F k = f at *
      have HX : Hid (Calls Try.prog 69 #[.int .i64 k, .pointer (some ⟨a, 0, none⟩), .pointer (some ⟨b, 0, none⟩)] wr fun e w' => e = .returned (.int .i64 f) ∧ Below wr.heap.size wr w') := by rw [← hf]; exact HC.out wr k hB hlt
      have HM : Hid (mostF F (k + 1) = max m f) := by rw [HS.out, hm, hf]; exact rfl
      clear hm hf HC
      go_wp2_with (go_at_call 69; refine (HX.out).mono ?_; rintro e w2 ⟨rfl, hb2⟩)
      replace hB := hB.trans (hb2.mono hB.size)
      go_roundw
      case rel => exact ⟨k + 1, by omega, by omega, by go_num, by rw [HM.out], hB⟩
      case measure => simp [intOf]; omega
    · obtain rfl : k = n := by omega
      go_wp2_with fail
      go_ret
      exact ⟨rfl, hB⟩


set_option maxRecDepth 100000 in
set_option maxHeartbeats 2000000 in
theorem most90_any (g : Nat) (F : Nat → Int) (n : Nat) (h1 : 1 ≤ n) (hn : n ≤ 100000) (w : World)
    (HC0 : ∀ (W : World) (i : Nat), Below w.heap.size w W → i < n → Calls Try.prog 90 #[.pointer (some ⟨g, 0, none⟩), .int .i64 i] W fun e w' => e = .returned (.int .i64 (F i)) ∧ Below W.heap.size W w') :
    Calls Try.prog 68 #[.int .i64 n, .func (.func 90) #[.pointer (some ⟨g, 0, none⟩)] #[]] w fun e w' => e = .returned (.int .i64 (mostF F n)) ∧ Below w.heap.size w w' := by
  have HC := Lib.hid HC0
  clear HC0
  have hB := Below.refl w.heap.size w
  have hF1 : mostF F 1 = F 0 := by simp [mostF]
  have HF := Lib.hid hF1
  clear hF1
  have HS : Hid (∀ k, mostF F (k + 1) = max (mostF F k) (F k)) := fun _ => rfl
  go_enter Try.func68, Try.ntmps68
  go_wp2_with (go_at_call 90; refine (HC.out _ 0 hB (by omega)).mono ?_; rintro e w1 ⟨rfl, hb1⟩)
  replace hB := hB.trans (hb1.mono hB.size)
  clear hb1
  go_loopw [5, 6] (fun out i wr => ∃ k : Nat, 1 ≤ k ∧ k ≤ n ∧ i = .int .i64 k ∧ out = .int .i64 (mostF F k) ∧ Below w.heap.size w wr) (fun _ i _ => n - (intOf i).toNat)
  case atStart => exact ⟨1, by omega, h1, rfl, by rw [HF.out], hB⟩
  case round =>
    clear hB
    obtain ⟨k, hk0, hk, rfl, rfl, hB⟩ := hrel
    by_cases hlt : k < n
    · have hI : (k : Int) < n := by omega
      generalize hm : mostF F k = m at *
      generalize hf : F k = f at *
      have HX : Hid (Calls Try.prog 90 #[.pointer (some ⟨g, 0, none⟩), .int .i64 k] wr fun e w' => e = .returned (.int .i64 f) ∧ Below wr.heap.size wr w') := by rw [← hf]; exact HC.out wr k hB hlt
      have HM : Hid (mostF F (k + 1) = max m f) := by rw [HS.out, hm, hf]; exact rfl
      clear hm hf HC
      go_wp2_with (go_at_call 90; refine (HX.out).mono ?_; rintro e w2 ⟨rfl, hb2⟩)
      replace hB := hB.trans (hb2.mono hB.size)
      go_roundw
      case rel => exact ⟨k + 1, by omega, by omega, by go_num, by rw [HM.out], hB⟩
      case measure => simp [intOf]; omega
    · obtain rfl : k = n := by omega
      go_wp2_with fail
      go_ret
      exact ⟨rfl, hB⟩

end Go.Proofs.Ythmngnfdfelkeaa
