/-
  What is proved: the plain laws that the reference's Reach and Apart need.
  What is proved: the contracts of the reference's isWay, along, size, box, least and apart.
-/
import Derived.Test.YthmngnfdfelkeaaReach3Mg
import Derived.Test.YthmngnfdfelkeaaLawAMg
import Derived.Test.YthmngnfdfelkeaaRefBMg
namespace Go.Proofs.Ythmngnfdfelkeaa
open Go.RowKit

theorem reachLo_congr (s : Stn) (way : Int × Int) {lo hi lo' hi' : List Int} : ∀ k, (∀ i, i < k → lo.getD i 0 = lo'.getD i 0 ∧ hi.getD i 0 = hi'.getD i 0) → reachLo s way lo hi k = reachLo s way lo' hi' k
  | 0, _ => rfl
  | k + 1, h => by
    simp only [reachLo]
    rw [reachLo_congr s way k (fun i hi => h i (by omega)), (h k (by omega)).1, (h k (by omega)).2]

theorem byV_neg (p w : Int × Int) : byV p (-w.1, -w.2) = -byV p w := by
  simp only [byV, Int.mul_neg]
  omega

theorem reach_back (s : Stn) (way : Int × Int) (lo hi : List Int) : ∀ k, reachHi s way lo hi k = -reachLo s (-way.1, -way.2) lo hi k
  | 0 => by
    simp only [reachLo, reachHi, byV_neg]
    omega
  | k + 1 => by
    have ih := reach_back s way lo hi k
    simp only [reachLo, reachHi, byV_neg, Int.neg_mul, ih]
    omega

/-- The reference's box of all leads. -/
def boxHi (s : Stn) : List Int := s.pockets.map (·.2)
def boxLo (s : Stn) : List Int := List.replicate s.pockets.length 0

theorem take_low (s : Stn) (h : s.pockets.length ≤ 8) : lowZ.take s.pockets.length = boxLo s := by
  rw [lowZ, boxLo, List.take_replicate]
  congr 1
  omega

theorem take_high (s : Stn) (h : s.pockets.length ≤ 8) : (highK s s.pockets.length).take s.pockets.length = boxHi s := by
  apply List.ext_getElem
  · simp [highK, boxHi]; omega
  · intro i h1 h2
    have hi : i < s.pockets.length := by simpa [boxHi] using h2
    simp [highK, boxHi, hi]

theorem getD_take (l : List Int) {n i : Nat} (h : i < n) : (l.take n).getD i 0 = l.getD i 0 := by
  rw [List.getD_eq_getElem?_getD, List.getD_eq_getElem?_getD, List.getElem?_take, if_pos h]

theorem neg_way {way : Int × Int} (h : WayOk way) : WayOk (-way.1, -way.2) := by
  simp only [WayOk] at *
  omega

end Go.Proofs.Ythmngnfdfelkeaa
namespace Go.Proofs.Ythmngnfdfelkeaa
open Go.RowKit
attribute [local go_sem ↓] max_int min_int

theorem rsize_any (n : Int) (w : World) (h : -1000000000000000000 ≤ n ∧ n ≤ 1000000000000000000) : Calls Try.prog 81 #[.int .i64 n] w fun e w' => e = .returned (.int .i64 n.natAbs) ∧ w = w' := by
  have hx : max n (-n) = (n.natAbs : Int) := by omega
  rw [← hx]
  clear hx
  go_enter Try.func81, Try.ntmps81
  go_wp2
  go_ret
  exact ⟨rfl, rfl⟩

theorem ralong_any (x y u v : Int) (w : World) (h1 : -9223372036854775808 ≤ x * u ∧ x * u ≤ 9223372036854775807) (h2 : -9223372036854775808 ≤ y * v ∧ y * v ≤ 9223372036854775807)
    (h3 : -9223372036854775808 ≤ x * u + y * v ∧ x * u + y * v ≤ 9223372036854775807) :
    Calls Try.prog 117 #[.agg #[.int .i64 x, .int .i64 y], .agg #[.int .i64 u, .int .i64 v]] w fun e w' => e = .returned (.int .i64 (x * u + y * v)) ∧ Below w.heap.size w w' := by
  go_enter Try.func117, Try.ntmps117
  go_wp2
  go_ret
  exact ⟨rfl, ((Below.refl _ _).alloc (Nat.le_refl _) _).alloc (by simp) _⟩

set_option maxHeartbeats 2000000 in
theorem risWay_any (x y : Int) (w : World) :
    Calls Try.prog 75 #[.agg #[.int .i64 x, .int .i64 y]] w fun e w' => e = .returned (.bool (wayB (x, y))) ∧ Below w.heap.size w w' := by
  have HF : Hid (∀ W, Calls Try.prog 102 #[.agg #[.int .i64 x, .int .i64 y], .int .i64 100] W fun e w' => e = .returned (.bool (inB x (-100) 100 && inB y (-100) 100)) ∧ Below W.heap.size W w') := fun W => rpoint_any x y 100 W (by omega)
  have hB : Below w.heap.size w (w.alloc (.cells #[.int .i64 x, .int .i64 y] 43)) := (Below.refl _ _).alloc (Nat.le_refl _) _
  have X : Bk (w.alloc (.cells #[.int .i64 x, .int .i64 y] 43)) w.heap.size 43 #[.int .i64 x, .int .i64 y] := bk_last rfl
  have HN := wneq43
  have HR : Hid (wayB (x, y) = (inB x (-100) 100 && inB y (-100) 100 && !(x == 0 && y == 0))) := rfl
  generalize (inB x (-100) 100 && inB y (-100) 100) = fb at *
  generalize wayB (x, y) = wb at *
  cases hz : (x == 0 && y == 0) <;> cases fb
  all_goals
    rw [hz] at HR
    go_enter Try.func75, Try.ntmps75
    go_wp2_with (go_at_call 102; refine (HF.out _).mono ?_; rintro e w3 ⟨rfl, hb3⟩; have X3 := X.keep hb3; have x0 := X3.cell 0; have x1 := X3.cell 1; simp at x0 x1)
    go_ret
    exact ⟨by rw [HR.out]; rfl, hB.trans (hb3.mono hB.size)⟩

theorem boxHi_next (s : Stn) (k : Nat) (h : k < s.pockets.length) : intCells ((boxHi s).take k) ++ [.int .i64 (s.pockets.getD k ((0, 0), 0)).2] = intCells ((boxHi s).take (k + 1)) := by
  have hl : k < (boxHi s).length := by simpa [boxHi] using h
  rw [List.take_add_one, List.getElem?_eq_getElem hl]
  simp only [intCells, List.map_append, Option.toList_some, List.map_cons, List.map_nil]
  congr 3
  simp [boxHi, h]

set_option maxRecDepth 100000 in
set_option maxHeartbeats 4000000 in
theorem rbox_any (s : Stn) (z : Loc) (w : World) (hs : StAt w s z) (hok : s.ok = true) :
    Calls Try.prog 76 #[s.val z] w fun e w' => ∃ A1 A2 c1 c2, e = .returned (.tuple #[.slice A1 s.pockets.length c1, .slice A2 s.pockets.length c2]) ∧ RowAt w' A1 (intCells (boxLo s)) ∧ RowAt w' A2 (intCells (boxHi s)) ∧ Below w.heap.size w w' := by
  have hpl := (stn_ok hok).2.2.2.2.1
  obtain ⟨X, hs1, hB0⟩ := box_stn hs
  have HL := Lib.hid hpl
  unfold Stn.val Stn.cells
  go_enter Try.func76, Try.ntmps76
  go_upto_region 3 with fail
  have hU1 : (w.alloc (.cells #[.int .i64 s.f.eye, .int .i64 s.f.rings, .int .i64 s.f.sec, .slice z.a1 s.f.kinds.length z.c1, .slice z.a2 s.heights.length z.c2, .slice z.a3 s.compass.length z.c3, .slice z.a4 s.pockets.length z.c4, .int .i64 s.tol] 28)).heap.size = w.heap.size + 1 := by simp
  generalize w.alloc (.cells _ 28) = U at *
  obtain ⟨j0, hj0, jz0, jz1, jz2⟩ := info_parts intInfo
  go_loopw [4, 5, 6] (fun u v i wr => ∃ k : Nat, k ≤ s.pockets.length ∧ i = .int .i64 k ∧ ∃ (A1 A2 : Option Addr) (c1 c2 : Nat), u = .slice A1 k c1 ∧ v = .slice A2 k c2 ∧ wr.ownsRow U.heap.size 3 1 (.slice A1 k c1) k (intCells (List.replicate k 0)) ∧ wr.ownsRow U.heap.size 3 1 (.slice A2 k c2) k (intCells ((boxHi s).take k)) ∧ apartV (.slice A1 k c1) (.slice A2 k c2) ∧ Bk wr w.heap.size 28 (s.cells z) ∧ Below w.heap.size w wr ∧ U.heap.size ≤ wr.heap.size) (fun _ _ i _ => s.pockets.length - (intOf i).toNat)
  case atStart => exact ⟨0, Nat.zero_le _, rfl, none, none, 0, 0, rfl, rfl, World.ownsRow_nil _ _ _ _, World.ownsRow_nil _ _ _ _, .inl rfl, X, hB0, Nat.le_refl _⟩
  case round =>
    clear X hB0
    obtain ⟨k, hk, rfl, A1, A2, c1, c2, rfl, rfl, ho1, ho2, hap, X, hB, hUw⟩ := hrel
    obtain ⟨_, _, _, _, _, _, x6, _⟩ := stn_cell0 X
    by_cases hlt : k < s.pockets.length
    · have hkI : (k : Int) < s.pockets.length := by omega
      obtain ⟨b, off, hA, hb, hc⟩ := hs.pockets.pk (by omega)
      obtain ⟨d0, d1, d2⟩ := hc k hlt
      have HN := Lib.hid (boxHi_next s k hlt)
      rw [hA] at x6
      have HAA := Lib.hid hA
      clear hc hA
      generalize s.pockets.getD k ((0, 0), 0) = p at *
      obtain ⟨⟨p0, p1⟩, p2⟩ := p
      simp only at d0 d1 d2 HN
      have E1 : Hid (k + 1 ≤ maxLen ∧ (k + 1) * 8 ≤ 140737488355328) := ⟨by unfold maxLen; omega, by omega⟩
      have hsz := hB.size
      have HO := Lib.hid (And.intro ho1 (And.intro ho2 (And.intro hap (And.intro X hB))))
      have HD := Lib.hid d2
      clear ho1 ho2 hap X hB d0 d1 d2
      go_upto_region 6 with (at_builtin; refine (wpList_append_own_at _ rfl _ _ 22 rfl U.heap.size 3 j0 _ 1 8 Try.underlying22 hj0 jz0 jz1 jz2 rfl (by decide) _ _ _ rfl (HO.out.1.alloc _) ⟨wr.heap.size, 0, none⟩ 1 1 [.int .i64 0] rfl rfl (cell_one_new _ _ _) (by simp [Value.oneCell']) E1.out.1 E1.out.2 (by simp; omega) ?_); intro v6 w6 hown6 hg6 _ hat6; obtain ⟨A6, c6, rfl, _, _, _⟩ := own_form hown6)
      obtain ⟨ho1, ho2, hap, X, hB⟩ := HO.out
      rw [rep_next] at hown6
      have own2 := (ho2.alloc (.cells #[.int .i64 0] 3)).kept hg6 hap.symm
      have X6 := (X.alloc (.cells #[.int .i64 0] 3)).grown hg6 (own_ne ho1 (by omega))
      have hB6 := (hB.alloc hB.size (.cells #[.int .i64 0] 3)).grown hg6 (by simp; omega) (fun r e => by have := (ho1.lt r e).1; omega)
      have hz6 : U.heap.size ≤ w6.heap.size := by have := hg6.size; simp at this; omega
      have hap6 : apartV (.slice A6 (k + 1) c6) (.slice A2 k c2) := hap.grow hat6 (fun b hb => by have := (ho2.lt b hb).2; simp; omega)
      have d2 := keepc hB6 HD.out
      clear HD x6 HO ho1 ho2 hap X hB hat6 hg6
      obtain ⟨_, _, _, _, _, _, x6, _⟩ := stn_cell0 X6
      rw [HAA.out] at x6
      have hsz6 := hB6.size
      have HO := Lib.hid (And.intro hown6 (And.intro own2 (And.intro hap6 (And.intro X6 hB6))))
      clear hown6 own2 hap6 X6 hB6
      have hbl : b < w6.heap.size := by omega
      go_wp2_with (at_builtin; refine (wpList_append_own_at _ rfl _ _ 22 rfl U.heap.size 3 j0 _ 1 8 Try.underlying22 hj0 jz0 jz1 jz2 rfl (by decide) _ _ _ rfl (HO.out.2.1.alloc _) ⟨w6.heap.size, 0, none⟩ 1 1 [.int .i64 p2] rfl rfl (cell_one_new _ _ _) (by simp [Value.oneCell']) E1.out.1 E1.out.2 (by simp; omega) ?_); intro v7 w7 hown7 hg7 _ hat7; obtain ⟨A7, c7, rfl, _, _, _⟩ := own_form hown7)
      obtain ⟨hown6, own2, hap6, X6, hB6⟩ := HO.out
      rw [HN.out] at hown7
      have own1 := (hown6.alloc (.cells #[.int .i64 p2] 3)).kept hg7 hap6
      have X7 := (X6.alloc (.cells #[.int .i64 p2] 3)).grown hg7 (own_ne own2 (by omega))
      have hB7 := (hB6.alloc hB6.size (.cells #[.int .i64 p2] 3)).grown hg7 (by simp; omega) (fun r e => by have := (own2.lt r e).1; omega)
      have hap7 : apartV (.slice A6 (k + 1) c6) (.slice A7 (k + 1) c7) := (hap6.symm.grow hat7 (fun b hb => by have := (hown6.lt b hb).2; simp; omega)).symm
      go_roundw
      case rel => exact ⟨k + 1, by omega, by go_num, A6, A7, c6, c7, rfl, rfl, own1, hown7, hap7, X7, hB7, by have := hg7.size; simp at this; omega⟩
      case measure => simp [intOf]; omega
    · obtain rfl : k = s.pockets.length := by omega
      have h1 : RowAt wr A1 (intCells (boxLo s)) := by
        obtain ⟨A, c', e1, _, h, _⟩ := own_form ho1
        injection e1 with e1 _
        rw [e1]; exact h
      have h2 : RowAt wr A2 (intCells (boxHi s)) := by
        obtain ⟨A, c', e1, _, h, _⟩ := own_form ho2
        injection e1 with e1 _
        rw [e1, ← List.take_of_length_le (l := boxHi s) (i := s.pockets.length) (by simp [boxHi])]; exact h
      have HO := Lib.hid (And.intro h1 (And.intro h2 hB))
      clear ho1 ho2 hap X hB h1 h2
      go_wp2_with fail
      go_ret2
      exact ⟨A1, A2, c1, c2, rfl, HO.out.1, HO.out.2.1, HO.out.2.2⟩

end Go.Proofs.Ythmngnfdfelkeaa
