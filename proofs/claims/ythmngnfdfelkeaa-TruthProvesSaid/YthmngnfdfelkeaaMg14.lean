/-
  What is proved: the contract of most, for each of the three functions that are handed to it.
  What is proved: the contracts of highest and its inner function.
-/
import Derived.Test.YthmngnfdfelkeaaGapMg
namespace Go.Proofs.Ythmngnfdfelkeaa
open Go.RowKit
attribute [local go_sem ↓] max_int min_int

/-- The greatest of the first n. -/
def mostF (F : Nat → Int) : Nat → Int
  | 0 => F 0
  | k + 1 => max (mostF F k) (F k)

set_option maxRecDepth 100000 in
set_option maxHeartbeats 2000000 in
theorem most121_any (a b : Nat) (F : Nat → Int) (n : Nat) (h1 : 1 ≤ n) (hn : n ≤ 100000) (w : World)
    (HC0 : ∀ (W : World) (i : Nat), Below w.heap.size w W → i < n → Calls Try.prog 121 #[.int .i64 i, .pointer (some ⟨a, 0, none⟩), .pointer (some ⟨b, 0, none⟩)] W fun e w' => e = .returned (.int .i64 (F i)) ∧ Below W.heap.size W w') :
    Calls Try.prog 68 #[.int .i64 n, .func (.func 121) #[] #[.pointer (some ⟨a, 0, none⟩), .pointer (some ⟨b, 0, none⟩)]] w fun e w' => e = .returned (.int .i64 (mostF F n)) ∧ Below w.heap.size w w' := by
  have HC := Lib.hid HC0
  clear HC0
  have hB := Below.refl w.heap.size w
  have hF1 : mostF F 1 = F 0 := by simp [mostF]
  have HF := Lib.hid hF1
  clear hF1
  have HS : Hid (∀ k, mostF F (k + 1) = max (mostF F k) (F k)) := fun _ => rfl
  go_enter Try.func68, Try.ntmps68
  go_wp2_with (go_at_call 121; refine (HC.out _ 0 hB (by omega)).mono ?_; rintro e w1 ⟨rfl, hb1⟩)
  replace hB := hB.trans (hb1.mono hB.size)
  clear hb1
  go_loopw [5, 6] (fun out i wr => ∃ k : Nat, 1 ≤ k ∧ k ≤ n ∧ i = .int .i64 k ∧ out = .int .i64 (mostF F k) ∧ Below w.heap.size w wr) (fun _ i _ => n - (intOf i).toNat)
  case atStart => exact ⟨1, by omega, h1, rfl, by rw [HF.out], hB⟩
  case round =>
    clear hB
    obtain ⟨k, hk0, hk, rfl, rfl, hB⟩ := hrel
    by_cases hlt : k < n
    · have hI : (k : Int) < n := by omega
      generalize hm : mostF F k = m at *
      generalize hf : F k = f at *
      have HX : Hid (Calls Try.prog 121 #[.int .i64 k, .pointer (some ⟨a, 0, none⟩), .pointer (some ⟨b, 0, none⟩)] wr fun e w' => e = .returned (.int .i64 f) ∧ Below wr.heap.size wr w') := by rw [← hf]; exact HC.out wr k hB hlt
      have HM : Hid (mostF F (k + 1) = max m f) := by rw [HS.out, hm, hf]; exact rfl
      clear hm hf HC
      go_wp2_with (go_at_call 121; refine (HX.out).mono ?_; rintro e w2 ⟨rfl, hb2⟩)
      replace hB := hB.trans (hb2.mono hB.size)
      go_roundw
      case rel => exact ⟨k + 1, by omega, by omega, by go_num, by rw [HM.out], hB⟩
      case measure => simp [intOf]; omega
    · obtain rfl : k = n := by omega
      go_wp2_with fail
      go_ret
      exact ⟨rfl, hB⟩


set_option maxRecDepth 100000 in
set_option maxHeartbeats 2000000 in
theorem most69_any (a b : Nat) (F : Nat → Int) (n : Nat) (h1 : 1 ≤ n) (hn : n ≤ 100000) (w : World)
    (HC0 : ∀ (W : World) (i : Nat), Below w.heap.size w W → i < n → Calls Try.prog 69 #[.int .i64 i, .pointer (some ⟨a, 0, none⟩), .pointer (some ⟨b, 0, none⟩)] W fun e w' => e = .returned (.int .i64 (F i)) ∧ Below W.heap.size W w') :
    Calls Try.prog 68 #[.int .i64 n, .func (.func 69) #[] #[.pointer (some ⟨a, 0, none⟩), .pointer (some ⟨b, 0, none⟩)]] w fun e w' => e = .returned (.int .i64 (mostF F n)) ∧ Below w.heap.size w w' := by
  have HC := Lib.hid HC0
  clear HC0
  have hB := Below.refl w.heap.size w
  have hF1 : mostF F 1 = F 0 := by simp [mostF]
  have HF := Lib.hid hF1
  clear hF1
  have HS : Hid (∀ k, mostF F (k + 1) = max (mostF F k) (F k)) := fun _ => rfl
  go_enter Try.func68, Try.ntmps68
  go_wp2_with (go_at_call 69; refine (HC.out _ 0 hB (by omega)).mono ?_; rintro e w1 ⟨rfl, hb1⟩)
  replace hB := hB.trans (hb1.mono hB.size)
  clear hb1
  go_loopw [5, 6] (fun out i wr => ∃ k : Nat, 1 ≤ k ∧ k ≤ n ∧ i = .int .i64 k ∧ out = .int .i64 (mostF F k) ∧ Below w.heap.size w wr) (fun _ i _ => n - (intOf i).toNat)
  case atStart => exact ⟨1, by omega, h1, rfl, by rw [HF.out], hB⟩
  case round =>
    clear hB
    obtain ⟨k, hk0, hk, rfl, rfl, hB⟩ := hrel
    by_cases hlt : k < n
    · have hI : (k : Int) < n := by omega
      generalize hm : mostF F k = m at *
      generalize hf : F k = f at *
      have HX : Hid (Calls Try.prog 69 #[.int .i64 k, .pointer (some ⟨a, 0, none⟩), .pointer (some ⟨b, 0, none⟩)] wr fun e w' => e = .returned (.int .i64 f) ∧ Below wr.heap.size wr w') := by rw [← hf]; exact HC.out wr k hB hlt
      have HM : Hid (mostF F (k + 1) = max m f) := by rw [HS.out, hm, hf]; exact rfl
      clear hm hf HC
      go_wp2_with (go_at_call 69; refine (HX.out).mono ?_; rintro e w2 ⟨rfl, hb2⟩)
      replace hB := hB.trans (hb2.mono hB.size)
      go_roundw
      case rel => exact ⟨k + 1, by omega, by omega, by go_num, by rw [HM.out], hB⟩
      case measure => simp [intOf]; omega
    · obtain rfl : k = n := by omega
      go_wp2_with fail
      go_ret
      exact ⟨rfl, hB⟩


set_option maxRecDepth 100000 in
set_option maxHeartbeats 2000000 in
theorem most90_any (g : Nat) (F : Nat → Int) (n : Nat) (h1 : 1 ≤ n) (hn : n ≤ 100000) (w : World)
    (HC0 : ∀ (W : World) (i : Nat), Below w.heap.size w W → i < n → Calls Try.prog 90 #[.pointer (some ⟨g, 0, none⟩), .int .i64 i] W fun e w' => e = .returned (.int .i64 (F i)) ∧ Below W.heap.size W w') :
    Calls Try.prog 68 #[.int .i64 n, .func (.func 90) #[.pointer (some ⟨g, 0, none⟩)] #[]] w fun e w' => e = .returned (.int .i64 (mostF F n)) ∧ Below w.heap.size w w' := by
  have HC := Lib.hid HC0
  clear HC0
  have hB := Below.refl w.heap.size w
  have hF1 : mostF F 1 = F 0 := by simp [mostF]
  have HF := Lib.hid hF1
  clear hF1
  have HS : Hid (∀ k, mostF F (k + 1) = max (mostF F k) (F k)) := fun _ => rfl
  go_enter Try.func68, Try.ntmps68
  go_wp2_with (go_at_call 90; refine (HC.out _ 0 hB (by omega)).mono ?_; rintro e w1 ⟨rfl, hb1⟩)
  replace hB := hB.trans (hb1.mono hB.size)
  clear hb1
  go_loopw [5, 6] (fun out i wr => ∃ k : Nat, 1 ≤ k ∧ k ≤ n ∧ i = .int .i64 k ∧ out = .int .i64 (mostF F k) ∧ Below w.heap.size w wr) (fun _ i _ => n - (intOf i).toNat)
  case atStart => exact ⟨1, by omega, h1, rfl, by rw [HF.out], hB⟩
  case round =>
    clear hB
    obtain ⟨k, hk0, hk, rfl, rfl, hB⟩ := hrel
    by_cases hlt : k < n
    · have hI : (k : Int) < n := by omega
      generalize hm : mostF F k = m at *
      generalize hf : F k = f at *
      have HX : Hid (Calls Try.prog 90 #[.pointer (some ⟨g, 0, none⟩), .int .i64 k] wr fun e w' => e = .returned (.int .i64 f) ∧ Below wr.heap.size wr w') := by rw [← hf]; exact HC.out wr k hB hlt
      have HM : Hid (mostF F (k + 1) = max m f) := by rw [HS.out, hm, hf]; exact rfl
      clear hm hf HC
      go_wp2_with (go_at_call 90; refine (HX.out).mono ?_; rintro e w2 ⟨rfl, hb2⟩)
      replace hB := hB.trans (hb2.mono hB.size)
      go_roundw
      case rel => exact ⟨k + 1, by omega, by omega, by go_num, by rw [HM.out], hB⟩
      case measure => simp [intOf]; omega
    · obtain rfl : k = n := by omega
      go_wp2_with fail
      go_ret
      exact ⟨rfl, hB⟩

end Go.Proofs.Ythmngnfdfelkeaa
namespace Go.Proofs.Ythmngnfdfelkeaa
open Go.RowKit
attribute [local go_sem ↓] max_int min_int

set_option maxRecDepth 100000 in
set_option maxHeartbeats 2000000 in
theorem highest1_any (a b g : Nat) (p : Gp) (z : GLoc) (c t : Nat) (w : World) (hA : Bk w a 114 #[.pointer (some ⟨g, 0, none⟩)]) (hC : Bk w b 3 #[.int .i64 c]) (G : Bk w g 154 (p.cells z)) (hp : GpAt w p z) (hok : p.ok = true) (hc : c < p.f.kinds.length) (ht : (t : Int) < p.f.sec) :
    Calls Try.prog 121 #[.int .i64 t, .pointer (some ⟨a, 0, none⟩), .pointer (some ⟨b, 0, none⟩)] w fun e w' => e = .returned (.int .i64 (sumV p c t)) ∧ Below w.heap.size w w' := by
  have HS := Lib.hid (sum_any g p z c t w G hp hok hc ht)
  have a0 := hA.cell 0
  have c0 := hC.cell 0
  simp at a0 c0
  clear G hp hok hc ht
  go_enter Try.func121, Try.ntmps121
  go_wp2_with (go_at_call 87; refine (HS.out).mono ?_; rintro e w1 ⟨rfl, hb1⟩)
  go_ret
  exact ⟨rfl, hb1⟩

/-- The greatest sum of both heights at a cell. -/
def topV (p : Gp) (c : Nat) : Int := mostF (fun t => sumV p c t) p.f.sec.toNat

theorem most_bound {F : Nat → Int} {lo hi : Int} (n : Nat) (h : ∀ i, i < n → lo ≤ F i ∧ F i ≤ hi) (h0 : 1 ≤ n) : lo ≤ mostF F n ∧ mostF F n ≤ hi := by
  have key : ∀ k, k ≤ n → lo ≤ mostF F k ∧ mostF F k ≤ hi := by
    intro k
    induction k with
    | zero => exact fun _ => h 0 (by omega)
    | succ k ih =>
      intro hk
      have h1 := ih (by omega)
      have h2 := h k (by omega)
      simp only [mostF]
      omega
  exact key n (Nat.le_refl _)

theorem top_bound {p : Gp} (h : p.ok = true) {c : Nat} (hc : c < p.f.kinds.length) : -200000 ≤ topV p c ∧ topV p c ≤ 200000 := by
  obtain ⟨_, _, _, _, k5, _⟩ := fac_ok (gp_ok h).1
  exact most_bound _ (fun t _ => sum_bound h hc) (by omega)

set_option maxRecDepth 100000 in
set_option maxHeartbeats 2000000 in
theorem highest_any (g : Nat) (p : Gp) (z : GLoc) (c : Nat) (w : World) (G : Bk w g 154 (p.cells z)) (hp : GpAt w p z) (hok : p.ok = true) (hc : c < p.f.kinds.length) :
    Calls Try.prog 90 #[.pointer (some ⟨g, 0, none⟩), .int .i64 c] w fun e w' => e = .returned (.int .i64 (topV p c)) ∧ Below w.heap.size w w' := by
  obtain ⟨_, _, _, _, k5, k6, _⟩ := fac_ok (gp_ok hok).1
  obtain ⟨S, hS⟩ : ∃ S : Nat, p.f.sec = S := ⟨p.f.sec.toNat, by omega⟩
  have HM : Hid (∀ W : World, Below w.heap.size w W → Bk W w.heap.size 114 #[.pointer (some ⟨g, 0, none⟩)] → Bk W (w.heap.size + 1) 3 #[.int .i64 c] → Calls Try.prog 68 #[.int .i64 S, .func (.func 121) #[] #[.pointer (some ⟨w.heap.size, 0, none⟩), .pointer (some ⟨w.heap.size + 1, 0, none⟩)]] W fun e w' => e = .returned (.int .i64 (topV p c)) ∧ Below W.heap.size W w') := by
    intro W hW hA hC
    unfold topV
    rw [hS, Int.toNat_natCast]
    refine most121_any _ _ _ S (by omega) (by omega) W (fun W' i hb hi => ?_)
    exact highest1_any _ _ g p z c i W' (hA.keep hb) (hC.keep hb) ((G.below hW G.lt).keep hb) ((hp.below hW).below hb) hok hc (by omega)
  have x2 := G.cell 2
  have hgl := G.lt
  simp only [Gp.cells, hS] at x2
  simp at x2
  clear G hp hok hc hS
  have hA : Bk ((w.alloc (.cells #[.pointer (some ⟨g, 0, none⟩)] 114)).alloc (.cells #[.int .i64 c] 3)) w.heap.size 114 #[.pointer (some ⟨g, 0, none⟩)] := (bk_last rfl).alloc _
  have hC : Bk ((w.alloc (.cells #[.pointer (some ⟨g, 0, none⟩)] 114)).alloc (.cells #[.int .i64 c] 3)) (w.heap.size + 1) 3 #[.int .i64 c] := bk_last (by simp)
  have hB : Below w.heap.size w ((w.alloc (.cells #[.pointer (some ⟨g, 0, none⟩)] 114)).alloc (.cells #[.int .i64 c] 3)) := ((Below.refl _ _).alloc (Nat.le_refl _) _).alloc (by simp) _
  have HX := Lib.hid (HM.out _ hB hA hC)
  clear HM hA hC
  go_enter Try.func90, Try.ntmps90
  go_wp2_with (go_at_call 68; refine (HX.out).mono ?_; rintro e w1 ⟨rfl, hb1⟩)
  go_ret
  exact ⟨rfl, hB.trans (hb1.mono hB.size)⟩

end Go.Proofs.Ythmngnfdfelkeaa
