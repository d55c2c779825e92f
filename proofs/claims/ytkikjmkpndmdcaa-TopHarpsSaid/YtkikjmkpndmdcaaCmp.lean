/-
  What is proved: the contracts of cmp.Compare, cmp.Or and of the comparison of two moves.
-/
import Derived.Test.YtkikjmkpndmdcaaFlr
namespace Go.Proofs.Ytkikjmkpndmdcaa
open Go.RowKit

def cmpI (a b : Int) : Int := if a < b then -1 else if b < a then 1 else 0

theorem isNaN_any (a : Int) (w : World) : Calls Try.prog 88 #[.int .i64 a] w fun e w' => e = .returned (.bool false) ∧ w = w' := by
  go_enter Try.func88, Try.ntmps88
  go_wp2_with fail
  go_ret
  exact ⟨ret_bool (by simp), rfl⟩

theorem cmpI_any (a b : Int) (w : World) : Calls Try.prog 81 #[.int .i64 a, .int .i64 b] w fun e w' => e = .returned (.int .i64 (cmpI a b)) ∧ w = w' := by
  by_cases h1 : a < b
  · have HV : Hid (cmpI a b = -1) := by simp [Hid, cmpI, h1]
    go_enter Try.func81, Try.ntmps81
    go_wp2_with (go_at_call 88; refine (isNaN_any _ _).mono ?_; rintro e w' ⟨rfl, rfl⟩)
    go_ret
    exact ⟨by rw [HV.out]; rfl, rfl⟩
  · by_cases h2 : b < a
    · have HV : Hid (cmpI a b = 1) := by simp [Hid, cmpI, h1, h2]
      go_enter Try.func81, Try.ntmps81
      go_wp2_with (go_at_call 88; refine (isNaN_any _ _).mono ?_; rintro e w' ⟨rfl, rfl⟩)
      go_ret
      exact ⟨by rw [HV.out]; rfl, rfl⟩
    · have HV : Hid (cmpI a b = 0) := by simp [Hid, cmpI, h1, h2]
      go_enter Try.func81, Try.ntmps81
      go_wp2_with (go_at_call 88; refine (isNaN_any _ _).mono ?_; rintro e w' ⟨rfl, rfl⟩)
      go_ret
      exact ⟨by rw [HV.out]; rfl, rfl⟩

def orV : List Int → Int
  | [] => 0
  | x :: xs => if x = 0 then orV xs else x
theorem orV_hit : ∀ (xs : List Int) (k : Nat) (hk : k < xs.length), (∀ j (h : j < xs.length), j < k → xs[j] = 0) → xs[k] ≠ 0 → orV xs = xs[k]
  | x :: xs, 0, _, _, h => by simp at h; simp [orV, h]
  | x :: xs, k + 1, hk, h0, h => by
    have := h0 0 (by simp) (by omega)
    simp at this
    simp [orV, this]
    exact orV_hit xs k (by simpa using hk) (fun j hj hjk => by have := h0 (j + 1) (by simpa using hj) (by omega); simpa using this) (by simpa using h)
theorem orV_none : ∀ (xs : List Int), (∀ j (h : j < xs.length), xs[j] = 0) → orV xs = 0
  | [], _ => rfl
  | x :: xs, h0 => by
    have := h0 0 (by simp)
    simp at this
    simp [orV, this]
    exact orV_none xs (fun j hj => by have := h0 (j + 1) (by simpa using hj); simpa using this)

theorem or_any (A : Option Addr) (c : Nat) (xs : List Int) (w : World) (hL : RowAt w A (intCells xs)) (hn : xs.length ≤ 1000) :
    Calls Try.prog 80 #[.slice A xs.length c] w fun e w' => e = .returned (.int .i64 (orV xs)) ∧ w = w' := by
  go_enter Try.func80, Try.ntmps80
  go_wp2
  go_loop [8] (fun i => ∃ k : Nat, k ≤ xs.length ∧ i = .int .i64 k ∧ Hid (∀ j (h : j < xs.length), j < k → xs[j] = 0)) (fun i => xs.length - (intOf i).toNat)
  case atStart => exact ⟨0, Nat.zero_le _, rfl, fun j _ h => absurd h (by omega)⟩
  case round =>
    obtain ⟨k, hk, rfl, hall⟩ := hrel
    by_cases hlt : k < xs.length
    · obtain ⟨b', off, hA, hb', hc⟩ := hL.int (by omega)
      have c0 := hc k hlt
      clear hc
      rw [hA]
      clear hA
      have HV := Lib.hid (fun j (hj : j < xs.length) (hjk : j < k + 1) (hg : xs[k] = 0) => show xs[j] = 0 by
        rcases Nat.lt_or_ge j k with h | h
        · exact hall.out j hj h
        · obtain rfl : j = k := by omega
          exact hg)
      by_cases hb : xs[k] = 0
      · have HB := Lib.hid hb
        have hne : (xs[k] != 0) = false := by simp [hb]
        rw [hb] at c0
        clear hb hne
        go_wp2_with fail
        go_round
        case rel => exact ⟨k + 1, by omega, by go_num, fun j hj hjk => HV.out j hj hjk HB.out⟩
        case measure => simp [intOf]; omega
      · have HB := Lib.hid hb
        have hne : (xs[k] != 0) = true := by simp [hb]
        clear hb
        go_wp2_with fail
        go_ret
        exact ⟨ret_int (orV_hit xs k hlt hall.out HB.out).symm, rfl⟩
    · have : k = xs.length := by omega
      subst this
      go_wp2
      go_ret
      exact ⟨ret_int (orV_none xs (fun j hj => hall.out j hj hj)).symm, rfl⟩

def cutV (m : Mv) : Int := if m.cut then 1 else 0
def cmpMv (a b : Mv) : Int := orV [cmpI a.out b.out, cmpI a.side b.side, cmpI (cutV a) (cutV b)]
def mvV (m : Mv) : Value := .agg #[.int .i64 m.out, .int .i64 m.side, .bool m.cut]

set_option maxHeartbeats 1000000 in
theorem cut1_any (mo ms : Int) (mc : Bool) (w : World) : Calls Try.prog 79 #[.agg #[.int .i64 mo, .int .i64 ms, .bool mc]] w fun e w' => e = .returned (.int .i64 (cutV ⟨mo, ms, mc⟩)) ∧ Below w.heap.size w w' := by
  have hB : Below w.heap.size w (w.alloc (.cells #[.int .i64 mo, .int .i64 ms, .bool mc] 94)) := (Below.refl _ _).alloc (Nat.le_refl _) _
  cases mc
  · go_enter Try.func79, Try.ntmps79
    go_wp2_with fail
    go_ret
    exact ⟨rfl, hB⟩
  · go_enter Try.func79, Try.ntmps79
    go_wp2_with fail
    go_ret
    exact ⟨rfl, hB⟩

set_option maxRecDepth 100000 in
set_option maxHeartbeats 4000000 in
theorem compare_any (a b : Mv) (w : World) : Calls Try.prog 64 #[mvV a, mvV b] w fun e w' => e = .returned (.int .i64 (cmpMv a b)) ∧ Below w.heap.size w w' := by
  obtain ⟨ao, az, ac⟩ := a
  obtain ⟨bo, bs, bc⟩ := b
  have HV : Hid (cmpMv ⟨ao, az, ac⟩ ⟨bo, bs, bc⟩ = orV [cmpI ao bo, cmpI az bs, cmpI (cutV ⟨ao, az, ac⟩) (cutV ⟨bo, bs, bc⟩)]) := rfl
  unfold mvV
  obtain ⟨W, hW⟩ : ∃ W, (w.alloc (.cells #[.int .i64 ao, .int .i64 az, .bool ac] 94)).alloc (.cells #[.int .i64 bo, .int .i64 bs, .bool bc] 94) = W := ⟨_, rfl⟩
  have hbW : Below w.heap.size w W := by rw [← hW]; exact ((Below.refl _ _).alloc (Nat.le_refl _) _).alloc (by simp) _
  have Y : Bk W w.heap.size 94 #[.int .i64 ao, .int .i64 az, .bool ac] := by rw [← hW]; exact (bk_last rfl).alloc _
  have Z : Bk W (w.heap.size + 1) 94 #[.int .i64 bo, .int .i64 bs, .bool bc] := by rw [← hW]; exact bk_last (by simp)
  have y0 := Y.cell 0
  have y1 := Y.cell 1
  have y2 := Y.cell 2
  have z0 := Z.cell 0
  have z1 := Z.cell 1
  have z2 := Z.cell 2
  simp at y0 y1 y2 z0 z1 z2
  have HW := Lib.hid hW
  clear hW Y Z
  go_enter Try.func64, Try.ntmps64
  go_upto_region 2 with fail
  rw [HW.out]
  clear HW
  refine wp_region_extmix 17 (by kernel_rfl) (by kernel_rfl) (fun _ _ d _ _ h => by cases d <;> exact h) ?_
  simp only [List.take_succ_cons, List.take_zero, List.drop_succ_cons, List.drop_zero]
  replace y0 := fun x : Ext W => keepc x.bel y0
  replace y1 := fun x : Ext W => keepc x.bel y1
  replace y2 := fun x : Ext W => keepc x.bel y2
  replace z0 := fun x : Ext W => keepc x.bel z0
  replace z1 := fun x : Ext W => keepc x.bel z1
  replace z2 := fun x : Ext W => keepc x.bel z2
  repeat (go_big_quiet_step (first | (go_at_call 81; exact ext_same (cmpI_any _ _ _)) | (go_at_call 79; exact ext_of (cut1_any _ _ _ _))))
  refine wpQuiet_nil ?_
  rintro _ ⟨y, rfl⟩
  clear y0 y1 y2 z0 z1 z2
  have hb2 := y.bel
  generalize y.w = w2 at hb2 ⊢
  have hB := hbW.trans (hb2.mono hbW.size)
  generalize cmpI ao bo = q0 at *
  generalize cmpI az bs = q1 at *
  generalize cmpI (cutV ⟨ao, az, ac⟩) (cutV ⟨bo, bs, bc⟩) = q2 at *
  have hR : RowAt (w2.alloc (.cells #[.int .i64 q0, .int .i64 q1, .int .i64 q2] 3)) (some ⟨w2.heap.size, 0, none⟩) (intCells [q0, q1, q2]) := fun _ => ⟨w2.heap.size, 0, rfl, by simp, fun j u hu => by
    have := three_at w2 (.int .i64 q0) (.int .i64 q1) (.int .i64 q2) 3 w2.heap.size rfl j u hu
    rwa [add_at] at this⟩
  have HO := Lib.hid (or_any _ 3 [q0, q1, q2] _ hR (by simp))
  clear hR
  go_wp2_with (go_at_call 80; refine (HO.out).mono ?_; rintro e w' ⟨rfl, rfl⟩)
  go_ret
  exact ⟨by rw [HV.out]; rfl, hB.alloc hB.size _⟩

end Go.Proofs.Ytkikjmkpndmdcaa
