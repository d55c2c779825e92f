/-
  What is proved: plain laws of a box's volume and of a box of one lead.
  What is proved: the contracts of truth.widest and of truth.sure.
-/
import Derived.Test.YthmngnfdfelkeaaMg34
import Derived.Test.YthmngnfdfelkeaaMix
import Derived.BigRegion
namespace Go.Proofs.Ythmngnfdfelkeaa
open Go.RowKit

/-- How many leads lie in a box. -/
def volF (lo hi : List Int) : Nat → Nat
  | 0 => 1
  | n + 1 => volF lo hi n * (hi.getD n 0 - lo.getD n 0 + 1).toNat
theorem volF_pos {lo hi : List Int} : ∀ n, (∀ i, i < n → lo.getD i 0 ≤ hi.getD i 0) → 1 ≤ volF lo hi n
  | 0, _ => Nat.le_refl _
  | n + 1, h => by
    have ih := volF_pos n (fun i hi => h i (by omega))
    have := h n (by omega)
    exact Nat.mul_le_mul ih (show 1 ≤ (hi.getD n 0 - lo.getD n 0 + 1).toNat by omega)
theorem volF_congr {lo hi lo' hi' : List Int} : ∀ n, (∀ i, i < n → lo.getD i 0 = lo'.getD i 0 ∧ hi.getD i 0 = hi'.getD i 0) → volF lo hi n = volF lo' hi' n
  | 0, _ => rfl
  | n + 1, h => by
    simp only [volF]
    rw [volF_congr n (fun i hi => h i (by omega)), (h n (by omega)).1, (h n (by omega)).2]

theorem volF_split {lo hi : List Int} {p : Nat} {m : Int} (hl : p < lo.length) (hh : p < hi.length) (h1 : lo.getD p 0 ≤ m) (h2 : m < hi.getD p 0) : ∀ d, volF lo (hi.set p m) (p + 1 + d) + volF (lo.set p (m + 1)) hi (p + 1 + d) = volF lo hi (p + 1 + d)
  | 0 => by
    simp only [volF]
    have e1 : volF lo (hi.set p m) p = volF lo hi p := volF_congr p (fun i hi' => ⟨rfl, by rw [getD_set _ _ hh, if_neg (by omega)]⟩)
    have e2 : volF (lo.set p (m + 1)) hi p = volF lo hi p := volF_congr p (fun i hi' => ⟨by rw [getD_set _ _ hl, if_neg (by omega)], rfl⟩)
    rw [e1, e2, getD_set _ _ hh, getD_set _ _ hl, if_pos rfl, if_pos rfl, ← Nat.mul_add]
    congr 1
    omega
  | d + 1 => by
    have ih := volF_split hl hh h1 h2 d
    show volF lo (hi.set p m) (p + 1 + d) * ((hi.set p m).getD (p + 1 + d) 0 - lo.getD (p + 1 + d) 0 + 1).toNat + volF (lo.set p (m + 1)) hi (p + 1 + d) * (hi.getD (p + 1 + d) 0 - (lo.set p (m + 1)).getD (p + 1 + d) 0 + 1).toNat = volF lo hi (p + 1 + d) * (hi.getD (p + 1 + d) 0 - lo.getD (p + 1 + d) 0 + 1).toNat
    have hne : ¬ p = p + 1 + d := by omega
    have g1 : (hi.set p m).getD (p + 1 + d) 0 = hi.getD (p + 1 + d) 0 := by rw [getD_set _ _ hh, if_neg hne]
    have g2 : (lo.set p (m + 1)).getD (p + 1 + d) 0 = lo.getD (p + 1 + d) 0 := by rw [getD_set _ _ hl, if_neg hne]
    rw [g1, g2, ← Nat.add_mul, ih]

theorem vol_split {s : Stn} {lo hi : List Int} (hb : BoxIn s lo hi) {p : Nat} {m : Int} (hp : p < 8) (h1 : lo.getD p 0 ≤ m) (h2 : m < hi.getD p 0) : volF lo (hi.set p m) 8 + volF (lo.set p (m + 1)) hi 8 = volF lo hi 8 := by
  have h := volF_split (lo := lo) (hi := hi) (by rw [hb.1]; exact hp) (by rw [hb.2.1]; exact hp) h1 h2 (7 - p)
  rwa [show p + 1 + (7 - p) = 8 by omega] at h
theorem vol_pos {s : Stn} {lo hi : List Int} (hb : BoxIn s lo hi) : 1 ≤ volF lo hi 8 := volF_pos 8 (fun i hi' => (hb.2.2 i hi').2.1)

/-- The ways that are tried at every node. -/
def sureL : List (Int × Int) := [(1, 0), (-1, 0), (0, 1), (0, -1)]
theorem sure_way {x : Int × Int} (h : x ∈ sureL) : wayB x = true := by
  simp only [sureL, List.mem_cons, List.not_mem_nil, or_false] at h
  rcases h with rfl | rfl | rfl | rfl <;> rfl

theorem reach_point {s : Stn} {lo hi l : List Int} (way : Int × Int) : ∀ k, (∀ i, i < k → lo.getD i 0 = l.getD i 0 ∧ hi.getD i 0 = l.getD i 0) → reachLo s way lo hi k = alongV way (withX s l k, withY s l k)
  | 0, _ => by
    simp only [alongV, reachLo, byV, withX, withY, Int.mul_comm]
  | k + 1, h => by
    have ih := reach_point (s := s) way k (fun i hi => h i (by omega))
    have hk := h k (by omega)
    rw [along_succ, ← ih]
    simp only [reachLo]
    rw [hk.1, hk.2]
    omega

/-- A box of one lead: it sums up to enough, or it is apart in a way that is tried. -/
theorem point_leaf {s : Stn} (h : s.ok = true) {sum : Int} (hs : ∀ l, leadP s l → stillB s l = true → sum ≤ sumL l) {lo hi : List Int} (hb : BoxIn s lo hi) (h1 : ∀ i, i < 8 → hi.getD i 0 ≤ lo.getD i 0) (h2 : ¬ sum ≤ sumF lo 8) :
    ∃ x ∈ sureL, apartB s x lo hi = true := by
  have h8 := (stn_ok h).2.2.2.2.1
  have hll : (lo.take s.pockets.length).length = s.pockets.length := by rw [List.length_take, hb.1]; omega
  have hl : leadP s (lo.take s.pockets.length) := by
    refine ⟨hll, fun i hi' => ?_⟩
    rw [hll] at hi'
    rw [getD_take _ hi']
    have h3 := hb.2.2 i (by omega)
    rw [high_val h (by omega), if_pos hi'] at h3
    omega
  have hsum : sumL (lo.take s.pockets.length) = sumF lo 8 := by
    unfold sumL
    rw [hll, hb.sum h]
    exact sumF_congr _ (fun i hi' => getD_take lo hi')
  have hnot : stillB s (lo.take s.pockets.length) = false := by
    rw [Bool.eq_false_iff]
    intro hst
    have := hs _ hl hst
    omega
  have hr : ∀ way, reachLo s way lo hi s.pockets.length = alongV way (withX s (lo.take s.pockets.length) s.pockets.length, withY s (lo.take s.pockets.length) s.pockets.length) := fun way =>
    reach_point way _ (fun i hi' => by
      rw [getD_take lo hi']
      have h3 := hb.2.2 i (by omega)
      have h4 := h1 i (by omega)
      exact ⟨rfl, by omega⟩)
  unfold stillB at hnot
  rw [hll] at hnot
  generalize withX s (lo.take s.pockets.length) s.pockets.length = X at *
  generalize withY s (lo.take s.pockets.length) s.pockets.length = Y at *
  simp only [Bool.and_eq_false_iff, inB, decide_eq_false_iff_not] at hnot
  have key : ∀ x : Int × Int, x ∈ sureL → s.tol < alongV x (X, Y) → ∃ x ∈ sureL, apartB s x lo hi = true := fun x hx hlt => by
    refine ⟨x, hx, ?_⟩
    have hn : ((x.1.natAbs : Int) + x.2.natAbs) = 1 := by
      simp only [sureL, List.mem_cons, List.not_mem_nil, or_false] at hx
      rcases hx with rfl | rfl | rfl | rfl <;> rfl
    simp only [apartB, decide_eq_true_eq]
    rw [hr x, hn]
    omega
  have a1 : alongV (1, 0) (X, Y) = X := by simp only [alongV]; omega
  have a2 : alongV (-1, 0) (X, Y) = -X := by simp only [alongV]; omega
  have a3 : alongV (0, 1) (X, Y) = Y := by simp only [alongV]; omega
  have a4 : alongV (0, -1) (X, Y) = -Y := by simp only [alongV]; omega
  by_cases c1 : s.tol < X
  · exact key (1, 0) (by simp [sureL]) (by rw [a1]; exact c1)
  · by_cases c2 : s.tol < -X
    · exact key (-1, 0) (by simp [sureL]) (by rw [a2]; exact c2)
    · by_cases c3 : s.tol < Y
      · exact key (0, 1) (by simp [sureL]) (by rw [a3]; exact c3)
      · by_cases c4 : s.tol < -Y
        · exact key (0, -1) (by simp [sureL]) (by rw [a4]; exact c4)
        · omega

end Go.Proofs.Ythmngnfdfelkeaa
namespace Go.Proofs.Ythmngnfdfelkeaa
open Go.RowKit
attribute [local go_sem ↓] max_int min_int

set_option maxHeartbeats 1000000 in
theorem sure_any (w : World) : Calls Try.prog 126 #[] w fun e w' => e = .returned (.agg #[.int .i64 1, .int .i64 0, .int .i64 (-1), .int .i64 0, .int .i64 0, .int .i64 1, .int .i64 0, .int .i64 (-1)]) ∧ Below w.heap.size w w' := by
  go_enter Try.func126, Try.ntmps126
  go_wp2
  refine bodyPost_ret (v := .agg #[.int .i64 1, .int .i64 0, .int .i64 (-1), .int .i64 0, .int .i64 0, .int .i64 1, .int .i64 0, .int .i64 (-1)]) (by simp [results, Try.results126, go_sem]) rfl ⟨rfl, ?_⟩
  repeat (first | exact Below.refl _ _ | refine Below.setCell ?_ (by simp <;> omega) _ | refine Below.alloc ?_ (by simp <;> omega) _ | refine below_drewN ?_ _)

set_option maxRecDepth 100000 in
set_option maxHeartbeats 4000000 in
theorem widest_any (lo hi : List Int) (w : World) (hb : BoxOk lo hi) :
    Calls Try.prog 127 #[.agg (boxA lo hi)] w fun e w' => ∃ at_ : Nat, e = .returned (.int .i64 at_) ∧ at_ < 8 ∧ (∀ i, i < 8 → hi.getD i 0 - lo.getD i 0 ≤ hi.getD at_ 0 - lo.getD at_ 0) ∧ Below w.heap.size w w' := by
  obtain ⟨U, hU⟩ : ∃ U, w.alloc (.cells (boxA lo hi) 103) = U := ⟨_, rfl⟩
  have B4 : Bk U w.heap.size 103 (boxA lo hi) := by rw [← hU]; exact bk_last rfl
  have hB : Below w.heap.size w U := by rw [← hU]; exact (Below.refl _ _).alloc (Nat.le_refl _) _
  have HU := Lib.hid hU
  have HB := Lib.hid hb
  clear hU hb
  go_enter Try.func127, Try.ntmps127
  go_upto_region 3 with fail
  rw [HU.out]
  clear HU
  go_loopw [3, 5] (fun x i wr => ∃ (k a : Nat), k ≤ 8 ∧ i = .int .i64 k ∧ x = .int .i64 a ∧ a < 8 ∧ (∀ j, j < k → hi.getD j 0 - lo.getD j 0 ≤ hi.getD a 0 - lo.getD a 0) ∧ Bk wr w.heap.size 103 (boxA lo hi) ∧ Below w.heap.size w wr) (fun _ i _ => 8 - (intOf i).toNat)
  case atStart => exact ⟨0, 0, by omega, rfl, rfl, by omega, fun j hj => by omega, B4, hB⟩
  case round =>
    clear B4 hB
    obtain ⟨k, a, hk, rfl, rfl, ha, hm, B4, hB⟩ := hrel
    by_cases hlt : k < 8
    · have hkI : (k : Int) < 8 := by omega
      have haI : (a : Int) < 8 := by omega
      have z0 := B4.cell k
      rw [boxA_lo HB.out.1 hlt] at z0
      have z1 := B4.cell (8 + k)
      rw [boxA_hi HB.out.1 HB.out.2.1 hlt] at z1
      have z2 := B4.cell a
      rw [boxA_lo HB.out.1 ha] at z2
      have z3 := B4.cell (8 + a)
      rw [boxA_hi HB.out.1 HB.out.2.1 ha] at z3
      obtain ⟨⟨b1, b2⟩, b3, b4⟩ := HB.out.2.2 k hlt
      obtain ⟨⟨d1, d2⟩, d3, d4⟩ := HB.out.2.2 a ha
      have HM := Lib.hid hm
      clear hm
      generalize hlk : lo.getD k 0 = lk at *
      generalize hhk : hi.getD k 0 = hk' at *
      generalize hla : lo.getD a 0 = la at *
      generalize hha : hi.getD a 0 = ha' at *
      have HE := Lib.hid (And.intro hlk (And.intro hhk (And.intro hla hha)))
      clear hlk hhk hla hha
      have hw1 := IntWalk.i64_in (hk' - lk) (by omega)
      have hw2 := IntWalk.i64_in (ha' - la) (by omega)
      clear b1 b2 b3 b4 d1 d2 d3 d4
      go_upto_region 5 with fail
      replace z0 := fun x : Ext wr => keepc x.bel z0
      replace z1 := fun x : Ext wr => keepc x.bel z1
      replace z2 := fun x : Ext wr => keepc x.bel z2
      replace z3 := fun x : Ext wr => keepc x.bel z3
      refine wp_region_ext (by kernel_rfl) (by kernel_rfl) ?_
      repeat (go_big_quiet_step (fail))
      refine wpQuiet_nil ?_
      rintro _ ⟨y, rfl⟩
      clear z0 z1 z2 z3
      have hb2 := y.bel
      generalize y.w = w2 at hb2 ⊢
      replace B4 := B4.keep hb2
      replace hB := hB.trans (hb2.mono hB.size)
      by_cases hgt : ha' - la < hk' - lk
      · go_wp2_with fail
        go_roundw
        case rel =>
          refine ⟨k + 1, k, by omega, by go_num, rfl, hlt, fun j hj => ?_, B4, hB⟩
          rw [HE.out.1, HE.out.2.1]
          rcases Nat.lt_or_ge j k with h | h
          · have := HM.out j h
            omega
          · obtain rfl : j = k := by omega
            rw [HE.out.1, HE.out.2.1]
            omega
        case measure => simp [intOf]; omega
      · go_wp2_with fail
        go_roundw
        case rel =>
          refine ⟨k + 1, a, by omega, by go_num, rfl, ha, fun j hj => ?_, B4, hB⟩
          rw [HE.out.2.2.1, HE.out.2.2.2]
          rcases Nat.lt_or_ge j k with h | h
          · have := HM.out j h
            omega
          · obtain rfl : j = k := by omega
            rw [HE.out.1, HE.out.2.1]
            omega
        case measure => simp [intOf]; omega
    · obtain rfl : k = 8 := by omega
      have HM := Lib.hid hm
      clear hm
      go_wp2_with fail
      go_ret
      exact ⟨a, rfl, ha, HM.out, hB⟩

end Go.Proofs.Ythmngnfdfelkeaa
