/-
  What is proved: a stone as data; the contracts of stones.Valid, weight, Weight and of mass, plus, by, size.
-/
import Derived.Test.YthmngnfdfelkeaaFlat
import Derived.Test.YthmngnfdfelkeaaMix
namespace Go.Proofs.Ythmngnfdfelkeaa
open Go.RowKit

/-- A face. -/
structure Fac where
  eye : Int
  rings : Int
  sec : Int
  kinds : List Int
/-- Where its kinds lie. -/
def Fac.val (f : Fac) (A : Option Addr) (c : Nat) : Value := .agg #[.int .i64 f.eye, .int .i64 f.rings, .int .i64 f.sec, .slice A f.kinds.length c]
def Fac.ok (f : Fac) : Bool := inB f.eye 1 16 && inB f.rings 1 24 && inB f.sec 2 96 && (f.kinds.length : Int) == f.rings * f.sec && f.kinds.all fun k => inB k 0 2

theorem fac_ok {f : Fac} (h : f.ok = true) : 1 ≤ f.eye ∧ f.eye ≤ 16 ∧ 1 ≤ f.rings ∧ f.rings ≤ 24 ∧ 2 ≤ f.sec ∧ f.sec ≤ 96 ∧ (f.kinds.length : Int) = f.rings * f.sec ∧ f.kinds.length ≤ 2304 := by
  simp only [Fac.ok, Bool.and_eq_true, inB, decide_eq_true_eq, beq_iff_eq] at h
  obtain ⟨⟨⟨⟨h1, h2⟩, h3⟩, h4⟩, _⟩ := h
  refine ⟨h1.1, h1.2, h2.1, h2.2, h3.1, h3.2, h4, ?_⟩
  have : f.rings * f.sec ≤ 24 * 96 := Int.mul_le_mul h2.2 h3.2 (by omega) (by omega)
  omega

attribute [local go_sem] Fac.val
attribute [local go_sem ↓] max_int min_int

set_option maxHeartbeats 2000000 in
theorem valid_any (f : Fac) (A : Option Addr) (c : Nat) (w : World) (hL : RowAt w A (intCells f.kinds)) (hn : f.kinds.length ≤ 9223372036854775807) :
    Calls Try.prog 114 #[f.val A c] w fun e w' => e = .returned (.bool f.ok) ∧ Below w.heap.size w w' := by
  obtain ⟨eye, rings, sec, kinds⟩ := f
  simp only [Fac.val, Fac.ok] at *
  have hB : Below w.heap.size w (w.alloc (.cells #[.int .i64 eye, .int .i64 rings, .int .i64 sec, .slice A kinds.length c] 24)) := (Below.refl _ _).alloc (Nat.le_refl _) _
  by_cases h1 : inB eye 1 16 = true
  · by_cases h2 : inB rings 1 24 = true
    · by_cases h3 : inB sec 2 96 = true
      · have h2' := h2
        have h3' := h3
        simp only [inB, decide_eq_true_eq] at h2' h3'
        have hm : 0 ≤ rings * sec ∧ rings * sec ≤ 24 * 96 := ⟨Int.mul_nonneg (by omega) (by omega), Int.mul_le_mul (by omega) (by omega) (by omega) (by omega)⟩
        by_cases h4 : (kinds.length : Int) = rings * sec
        · have h4b : ((kinds.length : Int) == rings * sec) = true := by simpa using h4
          have HV := Lib.hid (not_any (fun n => !inB n 0 2) kinds)
          rw [h1, h2, h3, h4b]
          clear h4b
          have hne : ((kinds.length : Int) != rings * sec) = false := by simp [h4]
          clear h4
          go_enter Try.func114, Try.ntmps114
          go_wp2_with (first | (go_at_call 132; refine (swithin_any _ _ _ _).mono ?_; rintro e w' ⟨rfl, rfl⟩) | (go_at_call 112; refine (contains133_any _ _ _ _ (hL.alloc _) hn).mono ?_; rintro e w' ⟨rfl, rfl⟩))
          go_ret
          exact ⟨ret_bool (by rw [HV.out]; simp), hB⟩
        · have h4b : ((kinds.length : Int) == rings * sec) = false := by simpa using h4
          rw [h4b]
          have hne : ((kinds.length : Int) != rings * sec) = true := by simp [h4]
          clear h4 h4b
          go_enter Try.func114, Try.ntmps114
          go_wp2_with (go_at_call 132; refine (swithin_any _ _ _ _).mono ?_; rintro e w' ⟨rfl, rfl⟩)
          go_ret
          exact ⟨ret_bool (by simp), hB⟩
      · have h3' : inB sec 2 96 = false := by simpa using h3
        rw [h3']
        go_enter Try.func114, Try.ntmps114
        go_wp2_with (go_at_call 132; refine (swithin_any _ _ _ _).mono ?_; rintro e w' ⟨rfl, rfl⟩)
        go_ret
        exact ⟨ret_bool (by simp), hB⟩
    · have h2' : inB rings 1 24 = false := by simpa using h2
      rw [h2']
      go_enter Try.func114, Try.ntmps114
      go_wp2_with (go_at_call 132; refine (swithin_any _ _ _ _).mono ?_; rintro e w' ⟨rfl, rfl⟩)
      go_ret
      exact ⟨ret_bool (by simp), hB⟩
  · have h1' : inB eye 1 16 = false := by simpa using h1
    rw [h1']
    go_enter Try.func114, Try.ntmps114
    go_wp2_with (go_at_call 132; refine (swithin_any _ _ _ _).mono ?_; rintro e w' ⟨rfl, rfl⟩)
    go_ret
    exact ⟨ret_bool (by simp), hB⟩

theorem weight_any (f : Fac) (A : Option Addr) (c : Nat) (r : Int) (w : World) (he : 0 ≤ f.eye) (he2 : f.eye ≤ 1000) (hr : 0 ≤ r) (hr2 : r ≤ 1000) :
    Calls Try.prog 135 #[f.val A c, .int .i64 r] w fun e w' => e = .returned (.int .i64 (2 * (f.eye + r) + 1)) ∧ Below w.heap.size w w' := by
  obtain ⟨eye, rings, sec, kinds⟩ := f
  simp only [Fac.val] at *
  go_enter Try.func135, Try.ntmps135
  go_wp2
  go_ret
  exact ⟨rfl, (Below.refl _ _).alloc (Nat.le_refl _) _⟩

/-- What Weight gives. -/
def weightR (f : Fac) (r : Int) : Int × Int := if f.ok then if inB r 0 (f.rings - 1) then (2 * (f.eye + r) + 1, 0) else (0, 3) else (0, 10)
def pairV (x : Int × Int) : Value := .tuple #[.int .i64 x.1, .int .i64 x.2]

set_option maxHeartbeats 2000000 in
theorem Weight_any (f : Fac) (A : Option Addr) (c : Nat) (r : Int) (w : World) (hL : RowAt w A (intCells f.kinds)) (hn : f.kinds.length ≤ 9223372036854775807) :
    Calls Try.prog 122 #[f.val A c, .int .i64 r] w fun e w' => e = .returned (pairV (weightR f r)) ∧ Below w.heap.size w w' := by
  by_cases hok : f.ok = true
  · have hk := fac_ok hok
    obtain ⟨k1, k2, k3, k4, _⟩ := hk
    by_cases hr : inB r 0 (f.rings - 1) = true
    · have hr' := hr
      simp only [inB, decide_eq_true_eq] at hr'
      rw [weightR, if_pos hok, if_pos hr]
      have HW := Lib.hid (fun W : World => weight_any f A c r W (by omega) (by omega) hr'.1 (by omega))
      have HV := Lib.hid (fun (W : World) (h : RowAt W A (intCells f.kinds)) => valid_any f A c W h hn)
      rw [hok] at HV
      obtain ⟨eye, rings, sec, kinds⟩ := f
      simp only [Fac.val, pairV] at *
      go_enter Try.func122, Try.ntmps122
      go_wp2_with fail
      refine (HV.out _ (hL.alloc _)).mono ?_
      rintro e w1 ⟨rfl, hb1⟩
      have F : Bk w1 w.heap.size 24 #[.int .i64 eye, .int .i64 rings, .int .i64 sec, .slice A kinds.length c] := (bk_last rfl).keep hb1
      have hB1 : Below w.heap.size w w1 := ((Below.refl _ _).alloc (Nat.le_refl _) _).trans (hb1.mono (by simp))
      have f0 := F.cell 0
      have f1 := F.cell 1
      have f2 := F.cell 2
      have f3 := F.cell 3
      simp at f0 f1 f2 f3
      clear hb1
      go_wp2_with (go_at_call 132; refine (swithin_any _ _ _ _).mono ?_; rintro e w' ⟨rfl, rfl⟩)
      refine (HW.out _).mono ?_
      rintro e w2 ⟨rfl, hb2⟩
      have hB2 := hB1.trans (hb2.mono hB1.size)
      go_wp2_with fail
      go_ret2
      exact ⟨rfl, hB2⟩
    · have hr' : inB r 0 (f.rings - 1) = false := by simpa using hr
      rw [weightR, if_pos hok, if_neg hr]
      have HV := Lib.hid (fun (W : World) (h : RowAt W A (intCells f.kinds)) => valid_any f A c W h hn)
      rw [hok] at HV
      obtain ⟨eye, rings, sec, kinds⟩ := f
      simp only [Fac.val, pairV] at *
      go_enter Try.func122, Try.ntmps122
      go_wp2_with fail
      refine (HV.out _ (hL.alloc _)).mono ?_
      rintro e w1 ⟨rfl, hb1⟩
      have F : Bk w1 w.heap.size 24 #[.int .i64 eye, .int .i64 rings, .int .i64 sec, .slice A kinds.length c] := (bk_last rfl).keep hb1
      have hB1 : Below w.heap.size w w1 := ((Below.refl _ _).alloc (Nat.le_refl _) _).trans (hb1.mono (by simp))
      have f1 := F.cell 1
      simp at f1
      clear hb1
      go_wp2_with (go_at_call 132; refine (swithin_any _ _ _ _).mono ?_; rintro e w' ⟨rfl, rfl⟩)
      go_ret2
      exact ⟨rfl, hB1⟩
  · have hok' : f.ok = false := by simpa using hok
    rw [weightR, if_neg hok]
    have HV := Lib.hid (fun (W : World) (h : RowAt W A (intCells f.kinds)) => valid_any f A c W h hn)
    rw [hok'] at HV
    obtain ⟨eye, rings, sec, kinds⟩ := f
    simp only [Fac.val, pairV] at *
    go_enter Try.func122, Try.ntmps122
    go_wp2_with fail
    refine (HV.out _ (hL.alloc _)).mono ?_
    rintro e w1 ⟨rfl, hb1⟩
    have hB1 : Below w.heap.size w w1 := ((Below.refl _ _).alloc (Nat.le_refl _) _).trans (hb1.mono (by simp))
    clear hb1
    go_wp2_with fail
    go_ret2
    exact ⟨rfl, hB1⟩

/-! ### Points -/
theorem plus_any (x y px py t : Int) (w : World) (h1 : -9223372036854775808 ≤ px * t ∧ px * t ≤ 9223372036854775807) (h2 : -9223372036854775808 ≤ py * t ∧ py * t ≤ 9223372036854775807)
    (h3 : -9223372036854775808 ≤ x + px * t ∧ x + px * t ≤ 9223372036854775807) (h4 : -9223372036854775808 ≤ y + py * t ∧ y + py * t ≤ 9223372036854775807) :
    Calls Try.prog 115 #[.agg #[.int .i64 x, .int .i64 y], .agg #[.int .i64 px, .int .i64 py], .int .i64 t] w fun e w' => e = .returned (.agg #[.int .i64 (x + px * t), .int .i64 (y + py * t)]) ∧ Below w.heap.size w w' := by
  go_enter Try.func115, Try.ntmps115
  go_wp2
  refine bodyPost_ret (v := .agg #[.int .i64 (x + px * t), .int .i64 (y + py * t)]) (by simp [results, Try.results115, go_sem]) rfl ⟨rfl, ?_⟩
  repeat (first | exact Below.refl _ _ | refine Below.setCell ?_ (by simp <;> omega) _ | refine Below.alloc ?_ (by simp <;> omega) _ | refine below_drewN ?_ _)

theorem by_any (x y px py : Int) (w : World) (h1 : -9223372036854775808 ≤ x * px ∧ x * px ≤ 9223372036854775807) (h2 : -9223372036854775808 ≤ y * py ∧ y * py ≤ 9223372036854775807)
    (h3 : -9223372036854775808 ≤ x * px + y * py ∧ x * px + y * py ≤ 9223372036854775807) :
    Calls Try.prog 116 #[.agg #[.int .i64 x, .int .i64 y], .agg #[.int .i64 px, .int .i64 py]] w fun e w' => e = .returned (.int .i64 (x * px + y * py)) ∧ Below w.heap.size w w' := by
  go_enter Try.func116, Try.ntmps116
  go_wp2
  go_ret
  exact ⟨rfl, ((Below.refl _ _).alloc (Nat.le_refl _) _).alloc (by simp) _⟩

theorem size_any (x y : Int) (w : World) (h1 : -1000000000000000000 ≤ x ∧ x ≤ 1000000000000000000) (h2 : -1000000000000000000 ≤ y ∧ y ≤ 1000000000000000000) :
    Calls Try.prog 120 #[.agg #[.int .i64 x, .int .i64 y]] w fun e w' => e = .returned (.int .i64 ((x.natAbs : Int) + y.natAbs)) ∧ Below w.heap.size w w' := by
  have hx : max x (-x) = (x.natAbs : Int) := by omega
  have hy : max y (-y) = (y.natAbs : Int) := by omega
  rw [← hx, ← hy]
  have hx2 : 0 ≤ max x (-x) ∧ max x (-x) ≤ 1000000000000000000 := by omega
  have hy2 : 0 ≤ max y (-y) ∧ max y (-y) ≤ 1000000000000000000 := by omega
  clear hx hy
  go_enter Try.func120, Try.ntmps120
  go_wp2
  go_ret
  exact ⟨rfl, (Below.refl _ _).alloc (Nat.le_refl _) _⟩

end Go.Proofs.Ythmngnfdfelkeaa
