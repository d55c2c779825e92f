/-
  What is proved: the plain laws that the reference's Reach and Apart need.
-/
import Derived.Test.YthmngnfdfelkeaaReach3
namespace Go.Proofs.Ythmngnfdfelkeaa
open Go.RowKit

theorem reachLo_congr (s : Stn) (way : Int × Int) {lo hi lo' hi' : List Int} : ∀ k, (∀ i, i < k → lo.getD i 0 = lo'.getD i 0 ∧ hi.getD i 0 = hi'.getD i 0) → reachLo s way lo hi k = reachLo s way lo' hi' k
  | 0, _ => rfl
  | k + 1, h => by
    simp only [reachLo]
    rw [reachLo_congr s way k (fun i hi => h i (by omega)), (h k (by omega)).1, (h k (by omega)).2]

theorem byV_neg (p w : Int × Int) : byV p (-w.1, -w.2) = -byV p w := by
  simp only [byV, Int.mul_neg]
  omega

theorem reach_back (s : Stn) (way : Int × Int) (lo hi : List Int) : ∀ k, reachHi s way lo hi k = -reachLo s (-way.1, -way.2) lo hi k
  | 0 => by
    simp only [reachLo, reachHi, byV_neg]
    omega
  | k + 1 => by
    have ih := reach_back s way lo hi k
    simp only [reachLo, reachHi, byV_neg, Int.neg_mul, ih]
    omega

/-- The reference's box of all leads. -/
def boxHi (s : Stn) : List Int := s.pockets.map (·.2)
def boxLo (s : Stn) : List Int := List.replicate s.pockets.length 0

theorem take_low (s : Stn) (h : s.pockets.length ≤ 8) : lowZ.take s.pockets.length = boxLo s := by
  rw [lowZ, boxLo, List.take_replicate]
  congr 1
  omega

theorem take_high (s : Stn) (h : s.pockets.length ≤ 8) : (highK s s.pockets.length).take s.pockets.length = boxHi s := by
  apply List.ext_getElem
  · simp [highK, boxHi]; omega
  · intro i h1 h2
    have hi : i < s.pockets.length := by simpa [boxHi] using h2
    simp [highK, boxHi, hi]

theorem getD_take (l : List Int) {n i : Nat} (h : i < n) : (l.take n).getD i 0 = l.getD i 0 := by
  rw [List.getD_eq_getElem?_getD, List.getD_eq_getElem?_getD, List.getElem?_take, if_pos h]

theorem neg_way {way : Int × Int} (h : WayOk way) : WayOk (-way.1, -way.2) := by
  simp only [WayOk] at *
  omega

end Go.Proofs.Ythmngnfdfelkeaa
