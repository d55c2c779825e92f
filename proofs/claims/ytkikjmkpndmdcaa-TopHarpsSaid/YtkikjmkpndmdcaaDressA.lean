/-
  What is proved: the contracts of around, floor and index of stones.
-/
import Derived.Test.YtkikjmkpndmdcaaFlr
import Derived.Test.YtkikjmkpndmdcaaValid
import Derived.Test.YtkikjmkpndmdcaaOver
namespace Go.Proofs.Ytkikjmkpndmdcaa
open Go.RowKit

theorem around_val {n m : Int} (hm : 0 < m) : (n.tmod m + m).tmod m = n % m := by
  have h1 : -m < n.tmod m := Int.lt_tmod_of_pos n hm
  rw [Int.tmod_eq_emod_of_nonneg (a := n.tmod m + m) (by omega), Int.add_emod_right]
  exact Int.emod_eq_emod_iff_emod_sub_eq_zero.2 (by
    have e := Int.mul_tdiv_add_tmod n m
    have e2 : n.tmod m - n = -(m * n.tdiv m) := by omega
    rw [e2]
    exact Int.emod_eq_zero_of_dvd ⟨-(n.tdiv m), by rw [Int.mul_neg]⟩)

set_option maxHeartbeats 2000000 in
theorem around_any (n m : Int) (w : World) (hm : 1 ≤ m ∧ m ≤ 100000) :
    Calls Try.prog 60 #[.int .i64 n, .int .i64 m] w fun e w' => e = .returned (.int .i64 (n % m)) ∧ w = w' := by
  have hv := around_val (n := n) (m := m) (by omega)
  have h1 : -m < n.tmod m := Int.lt_tmod_of_pos n (by omega)
  have h2 : n.tmod m < m := Int.tmod_lt_of_pos n (by omega)
  have hz : (m == 0) = false := by simp; omega
  have hw1 := IntWalk.i64_in (n.tmod m) (by omega)
  have hw2 := IntWalk.i64_in (n.tmod m + m) (by omega)
  have h3 : 0 ≤ n % m ∧ n % m < m := ⟨Int.emod_nonneg _ (by omega), Int.emod_lt_of_pos _ (by omega)⟩
  have hw3 := IntWalk.i64_in (n % m) (by omega)
  go_enter Try.func60, Try.ntmps60
  go_wp2_with fail
  go_ret
  exact ⟨ret_int (by first | exact hv | rfl | (simp; done) | omega), rfl⟩

theorem floor_val {a b : Int} (hb : 0 < b) : (a - a % b).tdiv b = a / b := by
  have e := Int.mul_ediv_add_emod a b
  have : a - a % b = b * (a / b) := by omega
  rw [this]
  exact Int.mul_tdiv_cancel_left _ (by omega)

set_option maxHeartbeats 2000000 in
theorem floor_any (a b : Int) (w : World) (ha : -1000000 ≤ a ∧ a ≤ 1000000) (hb : 1 ≤ b ∧ b ≤ 100000) :
    Calls Try.prog 36 #[.int .i64 a, .int .i64 b] w fun e w' => e = .returned (.int .i64 (a / b)) ∧ w = w' := by
  have hv := floor_val (a := a) (b := b) (by omega)
  have h3 : 0 ≤ a % b ∧ a % b < b := ⟨Int.emod_nonneg _ (by omega), Int.emod_lt_of_pos _ (by omega)⟩
  have hz : (b == 0) = false := by simp; omega
  have hd : -1000000 ≤ a / b ∧ a / b ≤ 1000000 :=
    ⟨Int.le_ediv_of_mul_le (by omega) (by omega), Int.ediv_le_of_le_mul (by omega) (by omega)⟩
  have hw1 := IntWalk.i64_in (a - a % b) (by omega)
  have hw2 := IntWalk.i64_in ((a - a % b).tdiv b) (by rw [hv]; omega)
  have HV := Lib.hid hv
  have HA := Lib.hid (around_any a b w hb)
  generalize hq : (a - a % b).tdiv b = q at *
  have HQ := Lib.hid hq
  clear hv
  generalize a % b = m at *
  go_enter Try.func36, Try.ntmps36
  go_wp2_with (go_at_call 60; refine (HA.out).mono ?_; rintro e w' ⟨rfl, rfl⟩)
  go_ret
  exact ⟨ret_int (by first | exact HV.out | (rw [← HV.out]; rfl) | (rw [← HV.out, ← HQ.out]; done)), rfl⟩

set_option maxRecDepth 100000 in
set_option maxHeartbeats 4000000 in
theorem index_any (f : Fac) (A : Option Addr) (c : Nat) (ring sec : Int) (w : World) (hs : 1 ≤ f.sec ∧ f.sec ≤ 1000) (hr : 0 ≤ ring ∧ ring ≤ 1000) :
    Calls Try.prog 37 #[f.val A c, .int .i64 ring, .int .i64 sec] w fun e w' => e = .returned (.int .i64 (ring * f.sec + sec % f.sec)) ∧ Below w.heap.size w w' := by
  obtain ⟨eye, rings, S, kinds⟩ := f
  simp only at hs ⊢
  unfold Fac.val
  simp only
  obtain ⟨W, hW⟩ : ∃ W, w.alloc (.cells #[.int .i64 eye, .int .i64 rings, .int .i64 S, .slice A kinds.length c] 30) = W := ⟨_, rfl⟩
  have hbW : Below w.heap.size w W := by rw [← hW]; exact (Below.refl _ _).alloc (Nat.le_refl _) _
  have Y : Bk W w.heap.size 30 #[.int .i64 eye, .int .i64 rings, .int .i64 S, .slice A kinds.length c] := by rw [← hW]; exact bk_last rfl
  have y2 := Y.cell 2
  simp at y2
  have HW := Lib.hid hW
  clear hW Y
  have h3 : 0 ≤ sec % S ∧ sec % S < S := ⟨Int.emod_nonneg _ (by omega), Int.emod_lt_of_pos _ (by omega)⟩
  have hm := mul_bound (a := ring) (b := S) (m := 1000) (n := 1000) (by omega) (by omega) (by omega) (by omega)
  have hw1 := IntWalk.i64_in (ring * S) (by omega)
  have hw2 := IntWalk.i64_in (ring * S + sec % S) (by omega)
  have HA := Lib.hid (fun x : Ext W => around_any sec S x.w (by omega))
  generalize hsm : sec % S = sm at *
  have HSM := Lib.hid hsm
  clear hsm hm
  go_enter Try.func37, Try.ntmps37
  go_upto_region 1 with fail
  rw [HW.out]
  clear HW
  replace y2 := fun x : Ext W => keepc x.bel y2
  refine wp_region_ext (by kernel_rfl) (by kernel_rfl) ?_
  repeat (go_big_quiet_step ((go_at_call 60; exact ext_same (HA.out _))))
  refine wpQuiet_nil ?_
  rintro _ ⟨y, rfl⟩
  clear y2 HA
  have hb9 := y.bel
  generalize y.w = w9 at hb9 ⊢
  go_wp2_with fail
  go_ret
  exact ⟨rfl, hbW.trans (hb9.mono hbW.size)⟩

end Go.Proofs.Ytkikjmkpndmdcaa
