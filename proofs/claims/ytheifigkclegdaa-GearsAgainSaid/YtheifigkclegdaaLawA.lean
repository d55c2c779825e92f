/-
  What is proved: the walk of GearsAgain.
-/
import Derived.Test.YtheifigkclegdaaAgainM
namespace Go.Proofs.Ytheifigkclegdaa
open Go.RowKit

/-- A call that returns a new list of N ints and an error, where the train L lies at A. -/
def RetN (A : Option Addr) (L : List Mesh) (f : FuncId) (args : Array Value) (N : Nat) (ys : List Int) (e0 : Int) : Prop := ∀ W : World, RowAt W A (meshCells L) → Calls Try.prog f args W fun e w' => ∃ v, e = .returned (.tuple #[v, .int .i64 e0]) ∧ w'.ownsRow W.heap.size 3 1 v N (intCells ys) ∧ Below W.heap.size W w'

set_option maxRecDepth 100000 in
set_option maxHeartbeats 16000000 in
theorem again_core (A : Option Addr) (c : Nat) (L : List Mesh) (t x0 x1 n f : Int) (ys : List Int) (w : World) (hrow : RowAt w A (meshCells L)) (hl1 : 1 ≤ L.length) (hl2 : L.length ≤ 16) (ht0 : 0 ≤ t) (ht1 : t ≤ 1000000)
    (hlen : ys.length = 2 * L.length) (hy0 : ys[0]? = some x0) (hy1 : ys[1]? = some x1) (hx : ∀ h : 0 < L.length, x0 = t % L[0].dr ∧ x1 = t % L[0].dn ∧ 1 ≤ L[0].dr ∧ 1 ≤ L[0].dn) (hf : f = 0 ∨ (f = 2 ∧ n = 0)) (hn1 : f = 0 → 1 ≤ n)
    (h1 : Hid (RetN A L 18 #[.agg #[.slice A L.length c], .int .i64 t] (2 * L.length) ys 0)) (h3 : Hid (RetR A L 20 #[.agg #[.slice A L.length c]] (pairV (n, f)))) (h5 : Hid (f = 0 → n ≤ 1000000 - t → RetN A L 18 #[.agg #[.slice A L.length c], .int .i64 (t + n)] (2 * L.length) ys 0)) :
    Calls Try.prog 4 #[.agg #[.slice A L.length c], .int .i64 t] w fun e w' => e = .returned (.bool true) ∧ Below w.heap.size w w' := by
  have HLEN := Lib.hid hlen
  have HY := Lib.hid (And.intro hy0 hy1)
  have HX := Lib.hid hx
  clear hlen hy0 hy1 hx
  go_enter Try.func4, Try.ntmps4
  go_wp2_with fail
  refine (awake_any _).mono ?_
  rintro e' w0 ⟨rfl, hb0⟩
  have X : Bk w0 w.heap.size 24 #[.slice A L.length c] := (bk_last rfl).keep hb0
  replace hrow := (hrow.alloc _).below hb0
  have hB0 : Below w.heap.size w w0 := ((Below.refl w.heap.size w).alloc (Nat.le_refl _) _).trans (hb0.mono (by simp <;> omega))
  clear hb0
  have Xc0 := X.cell 0
  simp at Xc0
  have Xl := X.lt
  go_wp2_with fail
  refine (short_true A L.length c _ (by omega)).mono ?_
  rintro e' w1 ⟨rfl, hb1⟩
  replace X := X.keep hb1
  replace hrow := hrow.below hb1
  have hB1 := hB0.trans (hb1.mono hB0.size)
  clear Xc0 Xl
  clear hb1 hB0
  have Xc0 := X.cell 0
  simp at Xc0
  have Xl := X.lt
  go_wp2_with fail
  refine (h1.out _ hrow).mono ?_
  rintro e' w2 ⟨v1, rfl, ho1, hb2⟩
  replace X := X.keep hb2
  replace hrow := hrow.below hb2
  have hB2 := hB1.trans (hb2.mono hB1.size)
  obtain ⟨g1, c1, rfl, _, hr1⟩ := own_row ho1 (by omega)
  clear Xc0 Xl
  clear hb2 hB1
  have y0 := hr1.2 0 (.int .i64 x0) (by simp [intCells, HY.out.1])
  have y1 := hr1.2 1 (.int .i64 x1) (by simp [intCells, HY.out.2])
  simp at y0 y1
  clear hr1
  obtain ⟨b, off, hA, hbb, hcc⟩ := hrow.mesh (by omega)
  subst hA
  obtain ⟨m0, m1, _⟩ := hcc 0 (by omega)
  obtain ⟨e0, e1, d0, d1⟩ := HX.out (by omega)
  simp only [Nat.zero_mul, Nat.add_zero] at m0 m1
  clear hcc
  generalize L[0].dr = dr at *
  generalize L[0].dn = dn at *
  subst e0 e1
  have dz0 : (dr == 0) = false := by simp; omega
  have dz1 : (dn == 0) = false := by simp; omega
  have b0 : (0 : Int) < (L.length : Int) := by omega
  have b1 : (0 : Int) < 2 * (L.length : Int) := by omega
  have b2 : (1 : Int) < 2 * (L.length : Int) := by omega
  have b3 : (L.length : Int) ≤ 16 := by omega
  have Xc0 := X.cell 0
  simp at Xc0
  have Xl := X.lt
  go_wp2_with fail
  go_quiet (fail)
  replace X := X.drewN nq
  replace ho1 : (w2.drewN nq).ownsRow _ _ _ _ _ _ := ho1
  replace hrow := hrow.drewN nq
  have hB3 := below_drewN hB2 nq
  clear Xc0 Xl
  clear y0 y1 m0 m1 hB2 b0 b1 b2 hbb dz0 dz1
  generalize w2.drewN nq = w3 at *
  have Xc0 := X.cell 0
  simp at Xc0
  have Xl := X.lt
  go_wp2_with fail
  refine (h3.out _ hrow).mono ?_
  rintro e' w4 ⟨rfl, hb4⟩
  replace X := X.keep hb4
  replace hrow := hrow.below hb4
  replace ho1 := own_keep ho1 hb4
  have hB4 := hB3.trans (hb4.mono hB3.size)
  clear Xc0 Xl
  clear hb4 hB3
  unfold pairV
  rcases hf with hf | ⟨hf, hn⟩
  · subst hf
    have hn1 := hn1 rfl
    by_cases hle : n ≤ 1000000 - t
    · have hk5 := Lib.hid (h5.out rfl hle)
      have Xc0 := X.cell 0
      simp at Xc0
      have Xl := X.lt
      go_wp2_with fail
      refine (hk5.out _ hrow).mono ?_
      rintro e' w5 ⟨v2, rfl, ho2, hb5⟩
      replace X := X.keep hb5
      replace hrow := hrow.below hb5
      replace ho1 := own_keep ho1 hb5
      have hB5 := hB4.trans (hb5.mono hB4.size)
      obtain ⟨g2, c2, rfl, _, _⟩ := own_row ho2 (by omega)
      clear Xc0 Xl
      clear hb5 hB4
      obtain ⟨_, _, e1, _, ra, _⟩ := own_form ho1
      injection e1 with e1 _ e1'
      subst e1 e1'
      obtain ⟨_, _, e2, _, rb, _⟩ := own_form ho2
      injection e2 with e2 _ e2'
      subst e2 e2'
      have hsame := sameInts_any (some ⟨g1, 0, none⟩) (some ⟨g2, 0, none⟩) c1 c2 ys ys w5 ra rb (by have := HLEN.out; omega) (by have := HLEN.out; omega)
      rw [HLEN.out] at hsame
      have HS := Lib.hid hsame
      clear hsame ra rb
      go_wp2_with fail
      refine (HS.out).mono ?_
      rintro e' wz ⟨rfl, nz, rfl⟩
      simp only [decide_true]
      go_wp2_with fail
      go_ret
      exact ⟨rfl, below_drewN hB5 _⟩
    · have hle' : ¬ (n ≤ 1000000 - t) := hle
      have hgt : 1000000 - t < n := by omega
      go_wp2_with fail
      go_ret
      exact ⟨rfl, hB4⟩
  · subst hf hn
    go_wp2_with fail
    go_ret
    exact ⟨rfl, hB4⟩

set_option maxRecDepth 100000 in
set_option maxHeartbeats 4000000 in
theorem again_stop (A : Option Addr) (c : Nat) (L : List Mesh) (t e0 : Int) (w : World) (hrow : RowAt w A (meshCells L)) (hs : L.length ≤ 100) (he : e0 ≠ 0)
    (h1 : Hid (RetN A L 18 #[.agg #[.slice A L.length c], .int .i64 t] 0 [] e0)) :
    Calls Try.prog 4 #[.agg #[.slice A L.length c], .int .i64 t] w fun e w' => e = .returned (.bool true) ∧ Below w.heap.size w w' := by
  go_enter Try.func4, Try.ntmps4
  go_wp2_with fail
  refine (awake_any _).mono ?_
  rintro e' w0 ⟨rfl, hb0⟩
  have X : Bk w0 w.heap.size 24 #[.slice A L.length c] := (bk_last rfl).keep hb0
  replace hrow := (hrow.alloc _).below hb0
  have hB0 : Below w.heap.size w w0 := ((Below.refl w.heap.size w).alloc (Nat.le_refl _) _).trans (hb0.mono (by simp <;> omega))
  clear hb0
  have Xc0 := X.cell 0
  simp at Xc0
  have Xl := X.lt
  go_wp2_with fail
  refine (short_true A L.length c _ hs).mono ?_
  rintro e' w1 ⟨rfl, hb1⟩
  replace X := X.keep hb1
  replace hrow := hrow.below hb1
  have hB1 := hB0.trans (hb1.mono hB0.size)
  clear Xc0 Xl
  clear hb1 hB0
  have Xc0 := X.cell 0
  simp at Xc0
  have Xl := X.lt
  go_wp2_with fail
  refine (h1.out _ hrow).mono ?_
  rintro e' w2 ⟨v1, rfl, ho1, hb2⟩
  replace X := X.keep hb2
  replace hrow := hrow.below hb2
  have hB2 := hB1.trans (hb2.mono hB1.size)
  obtain ⟨A1, c1, rfl, _, _, _⟩ := own_form ho1
  clear Xc0 Xl
  clear hb2 hB1
  have he' : (e0 == 0) = false := by simpa using he
  go_wp2_with fail
  go_ret
  exact ⟨rfl, hB2⟩

theorem again_law (A : Option Addr) (c : Nat) (L : List Mesh) (t : Int) (w : World) (hrow : RowAt w A (meshCells L)) (hc : L.length ≤ c) (hcm : c ≤ 9223372036854775807) :
    Calls Try.prog 4 #[.agg #[.slice A L.length c], .int .i64 t] w fun e w' => e = .returned (.bool true) ∧ Below w.heap.size w w' := by
  by_cases hs : L.length ≤ 100
  · have hS : ∀ t : Int, RetN A L 18 #[.agg #[.slice A L.length c], .int .i64 t] (standsR L t).1.length (standsR L t).1 (standsR L t).2 := fun t W h => (stands_any A c L t W h hc hcm).mono fun _ _ h => h.norm
    by_cases he : (standsR L t).2 = 0
    · obtain ⟨hok, ht0, ht1, hlen, ⟨m, rest, hLe, xs, hxs⟩, hp, hq⟩ := again_ok he
      obtain ⟨k1, k2, k3⟩ := ok_train hok
      have hm := ok_mesh (k3 m (by rw [hLe]; simp))
      have h1 := hS t
      rw [hlen, he] at h1
      refine again_core A c L t (t % m.dr) (t % m.dn) (periodR L).1 (periodR L).2 (standsR L t).1 w hrow k1 k2 ht0 ht1 hlen (by rw [hxs]; rfl) (by rw [hxs]; rfl) ?_ hp (fun h => (hq h).1) h1 (fun W h => period_any A c L W h hc hcm) ?_
      · intro h
        have e : L[0] = m := by simp [hLe]
        rw [e]
        exact ⟨rfl, rfl, hm.1, hm.2.2.1⟩
      · intro hf hle
        have h2 := hS (t + (periodR L).1)
        rw [(hq hf).2 hle] at h2
        rw [← hlen]
        exact h2
    · have h1 := hS t
      rw [again_bad he] at h1
      exact again_stop A c L t _ w hrow hs he h1
  · go_enter Try.func4, Try.ntmps4
    go_wp2_with fail
    refine (awake_any _).mono ?_
    rintro e' w0 ⟨rfl, hb0⟩
    have X : Bk w0 w.heap.size 24 #[.slice A L.length c] := (bk_last rfl).keep hb0
    replace hrow := (hrow.alloc _).below hb0
    have hB0 : Below w.heap.size w w0 := ((Below.refl w.heap.size w).alloc (Nat.le_refl _) _).trans (hb0.mono (by simp <;> omega))
    clear hb0
    have Xc0 := X.cell 0
    simp at Xc0
    have Xl := X.lt
    go_wp2_with fail
    refine (short_false A L.length c _ hs).mono ?_
    rintro e' w1 ⟨rfl, hb1⟩
    replace X := X.keep hb1
    replace hrow := hrow.below hb1
    have hB1 := hB0.trans (hb1.mono hB0.size)
    clear Xc0 Xl
    clear hb1 hB0
    go_wp2
    go_ret
    exact ⟨rfl, hB1⟩

end Go.Proofs.Ytheifigkclegdaa
