/-
  What is proved: the contracts of truth.Lift and truth.Rubs.
-/
import Derived.Test.YthmngnfdfelkeaaShows
import Derived.Test.YthmngnfdfelkeaaRed
import Derived.Test.YthmngnfdfelkeaaSame
namespace Go.Proofs.Ythmngnfdfelkeaa
open Go.RowKit
attribute [local go_sem ↓] max_int min_int
attribute [local go_sem] run_store_func

theorem row_one (w : World) (x : Int) (q : Nat) (h : w.heap.size = q) : RowAt (w.alloc (.cells #[.int .i64 x] 3)) (some ⟨q, 0, none⟩) (intCells [x]) := row_bk (bk_last h) (by rfl)

set_option maxRecDepth 100000 in
set_option maxHeartbeats 4000000 in
theorem liftT_any (p : Gp) (z : GLoc) (l : Int) (w : World) (hp : GpAt w p z) :
    Calls Try.prog 41 #[p.f.val z.a1 z.c1, .slice z.a2 p.bed.length z.c2, .slice z.a3 p.run.length z.c3, .int .i64 l] w fun e w' => e = .returned (pairV (liftR p l)) ∧ Below w.heap.size w w' := by
  have HO : Hid (∀ W, GpAt W p z → Calls Try.prog 83 #[p.f.val z.a1 z.c1, .slice z.a2 p.bed.length z.c2, .slice z.a3 p.run.length z.c3] W (LayPost p z W)) := fun W h => lay_any p z W h
  unfold Fac.val at HO ⊢
  unfold pairV
  go_enter Try.func41, Try.ntmps41
  go_wp2_with fail
  refine (HO.out _ (hp.alloc _)).mono ?_
  rintro e w1 ⟨hb1, h⟩
  have hB : Below w.heap.size w w1 := ((Below.refl _ _).alloc (Nat.le_refl _) _).trans (hb1.mono (by simp))
  clear hb1
  rcases h with ⟨h1, rfl⟩ | ⟨h1, g, rfl, hg, R⟩
  · have HR := Lib.hid (show liftR p l = (0, layE p) by simp [liftR, h1])
    have hne := lay_ne h1
    clear h1
    generalize layE p = le at *
    go_wp2_with fail
    go_ret2
    exact ⟨by rw [HR.out]; rfl, hB⟩
  · have hfl : flatB 1000000000 [l] = inB l (-1000000000) 1000000000 := by simp [flatB]
    have HF := Lib.hid (flat_any (some ⟨w1.heap.size, 0, none⟩) 1 1000000000 [l] _ (row_one w1 l _ rfl) (by simp) (by omega) (by omega))
    rw [hfl] at HF
    clear hfl
    cases hl : inB l (-1000000000) 1000000000
    · have HR := Lib.hid (show liftR p l = (0, 1) by simp [liftR, h1, hl])
      rw [hl] at HF
      clear hl R h1
      go_wp2_with (go_at_call 67; refine (HF.out).mono ?_; rintro e w2 ⟨rfl, hb2⟩)
      go_ret2
      exact ⟨by rw [HR.out]; rfl, (hB.alloc hB.size _).trans (hb2.mono (by have := hB.size; simp; omega))⟩
    · have HR := Lib.hid (show liftR p l = (max 0 (l + mostF (topV p) p.bed.length), 0) by simp [liftR, h1, hl])
      rw [hl] at HF
      have hlb : -1000000000 ≤ l ∧ l ≤ 1000000000 := by simpa [inB] using hl
      obtain ⟨h2, h3, _⟩ := gp_ok h1
      obtain ⟨_, _, k3, _, k5, k6, k7, k8⟩ := fac_ok h2
      have hn1 : 1 ≤ p.bed.length := by
        rw [h3]
        have : (1 : Int) * 1 ≤ p.f.rings * p.f.sec := Int.mul_le_mul k3 (by omega) (by omega) (by omega)
        omega
      have htb := most_bound (F := topV p) (lo := -200000) (hi := 200000) p.bed.length (fun i hi => top_bound h1 (by omega)) hn1
      have HM : Hid (∀ W, Below w1.heap.size w1 W → Calls Try.prog 68 #[.int .i64 p.bed.length, .func (.func 90) #[.pointer (some ⟨g, 0, none⟩)] #[]] W fun e w' => e = .returned (.int .i64 (mostF (topV p) p.bed.length)) ∧ Below W.heap.size W w') := fun W h => most90_any g (topV p) p.bed.length hn1 (by omega) W (fun W' i hb hi => highest_any g p z i W' ((R.keep h).keep hb) (((hp.below hB).below h).below hb) h1 (by omega))
      clear hl R h1 h2 h3 k7
      generalize mostF (topV p) p.bed.length = m at *
      go_wp2_with (first | (go_at_call 67; refine (HF.out).mono ?_; rintro e w2 ⟨rfl, hb2⟩; have hB2 := ((Below.refl w1.heap.size w1).alloc (Nat.le_refl _) _).trans (hb2.mono (by simp))) | (go_at_call 68; refine (HM.out _ hB2).mono ?_; rintro e w3 ⟨rfl, hb3⟩))
      go_ret2
      exact ⟨by rw [HR.out]; rfl, (hB.trans (hB2.mono hB.size)).trans (hb3.mono (by have := hB.size; have := hB2.size; omega))⟩

/-- The numbers of those less than 1. -/
def rubN (l : List Int) (k : Nat) : List Int := ((List.range k).filter fun i => decide (l.getD i 0 < 1)).map Int.ofNat
theorem rubN_len (l : List Int) (k : Nat) : (rubN l k).length ≤ k := by
  unfold rubN
  rw [List.length_map]
  exact Nat.le_trans (List.length_filter_le _ _) (by simp)
theorem rubN_yes {l : List Int} {k : Nat} (h : l.getD k 0 < 1) : rubN l (k + 1) = rubN l k ++ [(k : Int)] := by
  unfold rubN
  rw [List.range_succ, List.filter_append, List.map_append]
  simp [List.filter_cons] at h ⊢
  simp [h]
theorem rubN_no {l : List Int} {k : Nat} (h : ¬ l.getD k 0 < 1) : rubN l (k + 1) = rubN l k := by
  unfold rubN
  rw [List.range_succ, List.filter_append, List.map_append]
  simp [List.filter_cons] at h ⊢
  omega

/-- What Rubs gives. -/
def rubsR (p : Gp) (l : Int) : List Int × Int := (rubN (closeR p l).1 (closeR p l).1.length, (closeR p l).2)

theorem closeR_len {p : Gp} (l : Int) : (closeR p l).1.length ≤ p.bed.length := by
  unfold closeR
  split
  · split <;> simp
  · simp

set_option maxRecDepth 100000 in
set_option maxHeartbeats 4000000 in
theorem rubsT_any (p : Gp) (z : GLoc) (l : Int) (w : World) (hp : GpAt w p z) (hn0 : p.bed.length ≤ 100000) :
    Calls Try.prog 39 #[p.f.val z.a1 z.c1, .slice z.a2 p.bed.length z.c2, .slice z.a3 p.run.length z.c3, .int .i64 l] w fun e w' => ∃ v, e = .returned (.tuple #[v, .int .i64 (rubsR p l).2]) ∧ w'.ownsRow w.heap.size 3 1 v (rubsR p l).1.length (intCells (rubsR p l).1) ∧ Below w.heap.size w w' := by
  have HO : Hid (∀ W, GpAt W p z → Calls Try.prog 37 #[p.f.val z.a1 z.c1, .slice z.a2 p.bed.length z.c2, .slice z.a3 p.run.length z.c3, .int .i64 l] W fun e w' => ∃ v, e = .returned (.tuple #[v, .int .i64 (closeR p l).2]) ∧ w'.ownsRow W.heap.size 3 1 v (closeR p l).1.length (intCells (closeR p l).1) ∧ Below W.heap.size W w') := fun W h => closest_any p z l W h
  have hcl := closeR_len (p := p) l
  have hn : (closeR p l).1.length ≤ 100000 := by omega
  unfold rubsR
  generalize closeR p l = r at *
  obtain ⟨L, E⟩ := r
  simp only at HO hn hcl ⊢
  unfold Fac.val at HO ⊢
  go_enter Try.func39, Try.ntmps39
  go_wp2_with fail
  refine (HO.out _ (hp.alloc _)).mono ?_
  rintro e w1 ⟨v, rfl, ho1, hb1⟩
  have hB1 : Below w.heap.size w w1 := ((Below.refl _ _).alloc (Nat.le_refl _) _).trans (hb1.mono (by simp))
  obtain ⟨A1, c1, rfl, _, hr1, _⟩ := own_form ho1
  clear ho1 hb1
  go_upto_region 4 with fail
  obtain ⟨j0, hj0, jz0, jz1, jz2⟩ := info_parts intInfo
  go_loopw [12, 25] (fun out i wr => ∃ k : Nat, k ≤ L.length ∧ i = .int .i64 k ∧ (∃ A c, out = .slice A (rubN L k).length c ∧ wr.ownsRow w1.heap.size 3 1 (.slice A (rubN L k).length c) (rubN L k).length (intCells (rubN L k))) ∧ Below w1.heap.size w1 wr) (fun _ i _ => L.length - (intOf i).toNat)
  case atStart => exact ⟨0, Nat.zero_le _, rfl, ⟨none, 0, rfl, World.ownsRow_nil _ _ _ _⟩, Below.refl _ _⟩
  case round =>
    obtain ⟨k, hk, rfl, ⟨A, c, rfl, ho⟩, hB⟩ := hrel
    by_cases hlt : k < L.length
    · have hkI : (k : Int) < L.length := by omega
      obtain ⟨b3, o3, ha3, hb3, hc3⟩ := (hr1.below hB).intD (by omega)
      have d3 := hc3 k hlt
      subst ha3
      have hy := rubN_yes (l := L) (k := k)
      have hno := rubN_no (l := L) (k := k)
      have hln := rubN_len L k
      have hzz := hB.size
      have HY := Lib.hid hy
      have HN := Lib.hid hno
      have HO2 := Lib.hid (And.intro ho hB)
      clear hc3 hy hno ho
      generalize L.getD k 0 = x at *
      generalize rubN L k = M at *
      by_cases hx : x < 1
      · have EE : Hid (M.length + 1 ≤ maxLen ∧ (M.length + 1) * 8 ≤ 140737488355328) := ⟨by unfold maxLen; omega, by omega⟩
        have hgoal : ∀ (wq : World) (v' : Value), wq.ownsRow w1.heap.size 3 1 v' (M.length + 1) (intCells M ++ [.int .i64 k]) → wq.ownsRow w1.heap.size 3 1 v' (rubN L (k + 1)).length (intCells (rubN L (k + 1))) := fun wq v' h => by
          rw [HY.out hx]
          simpa [intCells] using h
        have HGO := Lib.hid hgoal
        clear hgoal HN HY
        go_wp2_with (at_builtin; refine (wpList_append_own_at _ rfl _ _ 22 rfl w1.heap.size 3 j0 _ 1 8 Try.underlying22 hj0 jz0 jz1 jz2 rfl (by decide) _ _ _ rfl (HO2.out.1.alloc _) ⟨wr.heap.size, 0, none⟩ 1 1 [.int .i64 k] rfl rfl (cell_one_new _ _ _) (by simp [Value.oneCell']) EE.out.1 EE.out.2 (by simp; omega) ?_); intro v' w5 hown' hg5 _ _; have hown6 := HGO.out _ _ hown'; obtain ⟨A', c', rfl, _, _, _⟩ := own_form hown6)
        have hBz := HO2.out.2.size
        go_roundw
        case rel => exact ⟨k + 1, by omega, by go_num, ⟨_, _, by first | rfl | (simp; done), hown6⟩, (HO2.out.2.alloc hBz _).grown hg5 (by simp; omega) (fun r e => by have := (HO2.out.1.lt r e).1; omega)⟩
        case measure => simp [intOf]; omega
      · have HN2 := Lib.hid (HN.out hx)
        have HY2 := HO2.out
        clear HY HN
        go_wp2_with fail
        go_roundw
        case rel => exact ⟨k + 1, by omega, by go_num, ⟨A, c, by rw [HN2.out], by rw [HN2.out]; exact HY2.1⟩, HY2.2⟩
        case measure => simp [intOf]; omega
    · obtain rfl : k = L.length := by omega
      go_wp2_with fail
      go_ret2
      exact ⟨_, rfl, own_base ho hB1.size, hB1.trans (hB.mono hB1.size)⟩

end Go.Proofs.Ythmngnfdfelkeaa
