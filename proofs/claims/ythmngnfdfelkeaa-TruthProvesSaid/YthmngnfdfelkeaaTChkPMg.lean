/-
  What is proved: what the reference's check gives, as plain data.
-/
import Derived.Test.YthmngnfdfelkeaaMg34
import Derived.Test.YthmngnfdfelkeaaRLeastMg
namespace Go.Proofs.Ythmngnfdfelkeaa
open Go.RowKit

def checkR (s : Stn) (sum : Int) : Nat → Tr → List Int → List Int → Int × Bool
  | 0, _, _, _ => (0, false)
  | n + 1, .mk k p a way _ _ kids, lo, hi =>
    if k = 1 then (1, sumB sum p a way kids.length lo)
    else if k = 2 then (1, farT s p a way kids.length lo hi)
    else if k = 3 then
      if braB s p a way kids.length lo hi then
        match kids with
        | [x, y] => if (checkR s sum n x lo (hi.set p.toNat a)).2 then
            ((checkR s sum n x lo (hi.set p.toNat a)).1 + (checkR s sum n y (lo.set p.toNat (a + 1)) hi).1, (checkR s sum n y (lo.set p.toNat (a + 1)) hi).2)
          else (0, false)
        | _ => (0, false)
      else (0, false)
    else (0, false)

theorem checkR_spec (s : Stn) (sum : Int) : ∀ (n : Nat) (t : Tr) (lo hi : List Int), (checkR s sum n t lo hi).2 = (checkF s sum n t lo hi).isSome ∧ (∀ m, checkF s sum n t lo hi = some m → (checkR s sum n t lo hi).1 = m) ∧
    0 ≤ (checkR s sum n t lo hi).1 ∧ (checkR s sum n t lo hi).1 ≤ sizeT t
  | 0, t, lo, hi => by simp [checkR, checkF]
  | n + 1, .mk k p a way A c kids, lo, hi => by
    simp only [checkR, checkF]
    have hs : (1 : Int) ≤ sizeT (.mk k p a way A c kids) := by have := sizeT_pos (.mk k p a way A c kids); omega
    split
    · cases sumB sum p a way kids.length lo <;> simp <;> omega
    · split
      · cases farT s p a way kids.length lo hi <;> simp <;> omega
      · split
        · split
          · match kids with
            | [x, y] =>
              obtain ⟨i1, i2, i3, i4⟩ := checkR_spec s sum n x lo (hi.set p.toNat a)
              obtain ⟨j1, j2, j3, j4⟩ := checkR_spec s sum n y (lo.set p.toNat (a + 1)) hi
              simp only
              generalize checkF s sum n x lo (hi.set p.toNat a) = fx at *
              generalize checkF s sum n y (lo.set p.toNat (a + 1)) hi = fy at *
              generalize checkR s sum n x lo (hi.set p.toNat a) = rx at *
              generalize checkR s sum n y (lo.set p.toNat (a + 1)) hi = ry at *
              have hse : sizeT (.mk k p a way A c [x, y]) = 1 + sizeT x + sizeT y := by simp only [sizeT, sizeL]; omega
              cases fx with
              | none =>
                simp only [Option.isSome_none] at i1
                simp [i1]
              | some mx =>
                simp only [Option.isSome_some] at i1
                have e1 := i2 mx rfl
                cases fy with
                | none =>
                  simp only [Option.isSome_none] at j1
                  simp only [i1, j1, if_true]
                  refine ⟨rfl, by simp, by omega, by rw [hse]; omega⟩
                | some my =>
                  simp only [Option.isSome_some] at j1
                  have e2 := j2 my rfl
                  simp only [i1, j1, if_true]
                  refine ⟨rfl, fun m hm => ?_, by omega, by rw [hse]; omega⟩
                  simp only [Option.some.injEq] at hm
                  omega
            | [] => simp
            | [_] => simp
            | _ :: _ :: _ :: _ => simp
          · simp
        · simp

theorem checkR_two {s : Stn} {sum p a : Int} {n c : Nat} {way : Int × Int} {A : Option Addr} {x y : Tr} {lo hi : List Int} (h : braB s p a way 2 lo hi = true) : checkR s sum (n + 1) (.mk 3 p a way A c [x, y]) lo hi =
    if (checkR s sum n x lo (hi.set p.toNat a)).2 then
      ((checkR s sum n x lo (hi.set p.toNat a)).1 + (checkR s sum n y (lo.set p.toNat (a + 1)) hi).1, (checkR s sum n y (lo.set p.toNat (a + 1)) hi).2)
    else (0, false) := by
  have h2 : braB s p a way ([x, y] : List Tr).length lo hi = true := h
  simp only [checkR, h2]
  rfl
theorem checkR_none {s : Stn} {sum p a : Int} {n c : Nat} {way : Int × Int} {A : Option Addr} {kids : List Tr} {lo hi : List Int} (h : braB s p a way kids.length lo hi = false) : checkR s sum (n + 1) (.mk 3 p a way A c kids) lo hi = (0, false) := by
  simp [checkR, h]

/-- What check's contract says of one tree. -/
def proofA (s : Stn) (z : Loc) (sum : Int) : Array Value := s.cells z ++ #[.int .i64 (momX s s.f.kinds.length), .int .i64 (momY s s.f.kinds.length), .int .i64 sum]
def ChkAt (s : Stn) (z : Loc) (sum : Int) (n : Nat) (t : Tr) : Prop :=
  ∀ (q : Nat) (lo hi : List Int) (A1 A2 : Option Addr) (c1 c2 : Nat) (w : World), BoxIn s lo hi → TrAt w q t → StAt w s z → RowAt w A1 (intCells (lo.take s.pockets.length)) → RowAt w A2 (intCells (hi.take s.pockets.length)) →
    Calls Try.prog 104 #[.agg (proofA s z sum), t.val, .slice A1 s.pockets.length c1, .slice A2 s.pockets.length c2] w fun e w' => e = .returned (.tuple #[.int .i64 (checkR s sum n t lo hi).1, .bool (checkR s sum n t lo hi).2]) ∧ Below w.heap.size w w'

end Go.Proofs.Ythmngnfdfelkeaa
