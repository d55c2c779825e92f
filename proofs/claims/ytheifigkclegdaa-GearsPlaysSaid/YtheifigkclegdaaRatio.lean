/-
  What is proved: contracts of the functions on ratios.
-/
import Derived.Test.YtheifigkclegdaaProd
import Derived.Test.YtheifigkclegdaaMix
namespace Go.Proofs.Ytheifigkclegdaa
open Go.RowKit

def okRatio (x y : Int) : Bool := inB x 0 1000000000 && inB y 1 1000000000 && (Nat.gcd x.toNat y.toNat == 1)

theorem okRatio_bounds {x y : Int} (h : okRatio x y = true) : 0 ≤ x ∧ x ≤ 1000000000 ∧ 1 ≤ y ∧ y ≤ 1000000000 ∧ Nat.gcd x.toNat y.toNat = 1 := by
  simp only [okRatio, inB, Bool.and_eq_true, decide_eq_true_eq, beq_iff_eq] at h
  omega

theorem beq_cast (n m : Nat) : ((n : Int) == (m : Int)) = (n == m) := by
  rw [Bool.eq_iff_iff, beq_iff_eq, beq_iff_eq]
  omega
theorem Bk.keep {W w1 : World} {g : Nat} {t : TypeId} {cs : Array Value} (h : Bk W g t cs) (hb : Below W.heap.size W w1) : Bk w1 g t cs := h.below hb h.lt
theorem bk_last {w : World} {n : Nat} {t : TypeId} {cs : Array Value} (h : w.heap.size = n) : Bk (w.alloc (.cells cs t)) n t cs := by subst h; exact Bk.new w t cs
theorem keepc {W w1 : World} {b o : Nat} {v : Value} (hb : Below W.heap.size W w1) (h : W.cell? ⟨b, o, none⟩ = some v) : w1.cell? ⟨b, o, none⟩ = some v :=
  (hb.cell (p := ⟨b, o, none⟩) (World.block_lt_of_cell? W _ h)).trans h
theorem keepf {W w1 : World} {b o : Nat} (hb : Below W.heap.size W w1) (h : W.frozen? ⟨b, o, none⟩ = false) (hl : b < W.heap.size) : w1.frozen? ⟨b, o, none⟩ = false :=
  (hb.frozen (p := ⟨b, o, none⟩) hl).trans h
attribute [local go_sem] Res.val

set_option maxHeartbeats 400000 in
theorem of_any (x y : Int) (w : World) :
    Calls Try.prog 72 #[.agg #[.int .i64 x, .int .i64 y]] w fun e w' => e = .returned (.agg #[.int .i64 x, .int .i64 y]) ∧ Below w.heap.size w w' := by
  go_enter Try.func72, Try.ntmps72
  go_wp2
  refine bodyPost_ret (v := .agg #[.int .i64 x, .int .i64 y]) (by simp [results, Try.results72, go_sem]) rfl ⟨rfl, by go_grown⟩

set_option maxHeartbeats 400000 in
theorem back_any (x y : Int) (w : World) :
    Calls Try.prog 83 #[.agg #[.int .i64 x, .int .i64 y]] w fun e w' => e = .returned (.agg #[.int .i64 y, .int .i64 x]) ∧ Below w.heap.size w w' := by
  go_enter Try.func83, Try.ntmps83
  go_wp2
  refine bodyPost_ret (v := .agg #[.int .i64 y, .int .i64 x]) (by simp [results, Try.results83, go_sem]) rfl ⟨rfl, by go_grown⟩

set_option maxHeartbeats 1000000 in
theorem validRatio_any (x y : Int) (w : World) :
    Calls Try.prog 57 #[.agg #[.int .i64 x, .int .i64 y]] w fun e w' => e = .returned (.bool (okRatio x y)) ∧ Below w.heap.size w w' := by
  by_cases h1 : inB x 0 1000000000 = true
  · by_cases h2 : inB y 1 1000000000 = true
    · have b1 := h1
      have b2 := h2
      simp only [inB, decide_eq_true_eq] at b1 b2
      obtain ⟨a, rfl⟩ := Int.eq_ofNat_of_zero_le b1.1
      obtain ⟨b, rfl⟩ := Int.eq_ofNat_of_zero_le (show 0 ≤ y by omega)
      go_enter Try.func57, Try.ntmps57
      go_wp2_with (first | (go_at_call 68; refine (within_any _ _ _ _).mono ?_; rintro e w' ⟨rfl, rfl⟩) | (go_at_call 66; refine (gcd_any _ _ _ (by omega) (by omega)).mono ?_; rintro e w' ⟨rfl, n, rfl⟩))
      go_ret
      exact ⟨ret_bool (by simp only [okRatio, h1, h2, Int.toNat_natCast, Bool.true_and]; exact beq_cast _ _), below_drewN ((Below.refl _ _).alloc (Nat.le_refl _) _) _⟩
    · have h2' : inB y 1 1000000000 = false := by simpa using h2
      go_enter Try.func57, Try.ntmps57
      go_wp2_with (first | (go_at_call 68; refine (within_any _ _ _ _).mono ?_; rintro e w' ⟨rfl, rfl⟩))
      go_ret
      exact ⟨ret_bool (by simp [okRatio, h1, h2']), by go_grown⟩
  · have h1' : inB x 0 1000000000 = false := by simpa using h1
    go_enter Try.func57, Try.ntmps57
    go_wp2_with (first | (go_at_call 68; refine (within_any _ _ _ _).mono ?_; rintro e w' ⟨rfl, rfl⟩))
    go_ret
    exact ⟨ret_bool (by simp [okRatio, h1']), by go_grown⟩

set_option maxHeartbeats 1000000 in
theorem rvalidRatio_any (x y : Int) (w : World) :
    Calls Try.prog 58 #[.agg #[.int .i64 x, .int .i64 y]] w fun e w' => e = .returned (.bool (okRatio x y)) ∧ Below w.heap.size w w' := by
  by_cases h1 : inB x 0 1000000000 = true
  · by_cases h2 : inB y 1 1000000000 = true
    · have b1 := h1
      have b2 := h2
      simp only [inB, decide_eq_true_eq] at b1 b2
      obtain ⟨a, rfl⟩ := Int.eq_ofNat_of_zero_le b1.1
      obtain ⟨b, rfl⟩ := Int.eq_ofNat_of_zero_le (show 0 ≤ y by omega)
      go_enter Try.func58, Try.ntmps58
      go_wp2_with (first | (go_at_call 78; refine (rwithin_any _ _ _ _).mono ?_; rintro e w' ⟨rfl, rfl⟩) | (go_at_call 67; refine (rgcd_any _ _ _ (by omega) (by omega)).mono ?_; rintro e w' ⟨rfl, rfl⟩))
      go_ret
      exact ⟨ret_bool (by simp only [okRatio, h1, h2, Int.toNat_natCast, Bool.true_and]; exact beq_cast _ _), by go_grown⟩
    · have h2' : inB y 1 1000000000 = false := by simpa using h2
      go_enter Try.func58, Try.ntmps58
      go_wp2_with (first | (go_at_call 78; refine (rwithin_any _ _ _ _).mono ?_; rintro e w' ⟨rfl, rfl⟩))
      go_ret
      exact ⟨ret_bool (by simp [okRatio, h1, h2']), by go_grown⟩
  · have h1' : inB x 0 1000000000 = false := by simpa using h1
    go_enter Try.func58, Try.ntmps58
    go_wp2_with (first | (go_at_call 78; refine (rwithin_any _ _ _ _).mono ?_; rintro e w' ⟨rfl, rfl⟩))
    go_ret
    exact ⟨ret_bool (by simp [okRatio, h1']), by go_grown⟩

/-- product of one fraction, of two. -/
theorem product1_any (b c n d : Nat) (w : World) (hb : b < w.heap.size) (h1 : w.cell? ⟨b, 0, none⟩ = some (.int .i64 n)) (h2 : w.cell? ⟨b, 1, none⟩ = some (.int .i64 d)) (hn : n ≤ 9223372036854775807) (hd : d ≤ 9223372036854775807) (hd1 : 1 ≤ d) :
    Calls Try.prog 71 #[.slice (some ⟨b, 0, none⟩) 1 c] w fun e w' => e = .returned (low n d).val ∧ Below w.heap.size w w' := by
  have h := product_any b 0 c [n] [d] w rfl (by simp) (by simp) ⟨hb, fun j u hu => ?_⟩ (fun j => ?_) (fun j => ?_) (fun j => ?_)
  · simpa [pr] using h
  · match j with
    | 0 => simp [fracCells] at hu; rw [← hu]; exact h1
    | 1 => simp [fracCells] at hu; rw [← hu]; exact h2
    | j + 2 => simp [fracCells] at hu
  · match j with
    | 0 => simpa using hn
    | j + 1 => simp
  · match j with
    | 0 => simpa using hd
    | j + 1 => simp
  · match j with
    | 0 => simpa using hd1
    | j + 1 => simp
theorem product2_any (b c n d n' d' : Nat) (w : World) (hb : b < w.heap.size) (h1 : w.cell? ⟨b, 0, none⟩ = some (.int .i64 n)) (h2 : w.cell? ⟨b, 1, none⟩ = some (.int .i64 d)) (h3 : w.cell? ⟨b, 2, none⟩ = some (.int .i64 n')) (h4 : w.cell? ⟨b, 3, none⟩ = some (.int .i64 d'))
    (hn : n ≤ 9223372036854775807) (hd : d ≤ 9223372036854775807) (hd1 : 1 ≤ d) (hn' : n' ≤ 9223372036854775807) (hd' : d' ≤ 9223372036854775807) (hd1' : 1 ≤ d') :
    Calls Try.prog 71 #[.slice (some ⟨b, 0, none⟩) 2 c] w fun e w' => e = .returned (low (n * n') (d * d')).val ∧ Below w.heap.size w w' := by
  have h := product_any b 0 c [n, n'] [d, d'] w rfl (by simp) (by simp) ⟨hb, fun j u hu => ?_⟩ (fun j => ?_) (fun j => ?_) (fun j => ?_)
  · simpa [pr] using h
  · match j with
    | 0 => simp [fracCells] at hu; rw [← hu]; exact h1
    | 1 => simp [fracCells] at hu; rw [← hu]; exact h2
    | 2 => simp [fracCells] at hu; rw [← hu]; exact h3
    | 3 => simp [fracCells] at hu; rw [← hu]; exact h4
    | j + 4 => simp [fracCells] at hu
  · match j with
    | 0 => simpa using hn
    | 1 => simpa using hn'
    | j + 2 => simp
  · match j with
    | 0 => simpa using hd
    | 1 => simpa using hd'
    | j + 2 => simp
  · match j with
    | 0 => simpa using hd1
    | 1 => simpa using hd1'
    | j + 2 => simp

/-- Reduce. -/
def reduceR (x y : Int) : Res := if x < 0 ∨ y < 1 then ⟨0, 0, 1⟩ else low x.toNat y.toNat

set_option maxHeartbeats 1000000 in
theorem reduce_any (x y : Int) (w : World) (hx : x ≤ 9223372036854775807) (hy : y ≤ 9223372036854775807) :
    Calls Try.prog 52 #[.int .i64 x, .int .i64 y] w fun e w' => e = .returned (reduceR x y).val ∧ Below w.heap.size w w' := by
  by_cases h1 : x < 0 ∨ y < 1
  · have hR : reduceR x y = ⟨0, 0, 1⟩ := by rw [reduceR, if_pos h1]
    rw [hR]
    clear hR
    rcases h1 with h1 | h1
    · go_enter Try.func52, Try.ntmps52
      go_wp2_with fail
      refine bodyPost_ret (v := .tuple #[.agg #[.int .i64 0, .int .i64 0], .int .i64 1]) (by simp [results, Try.results52, go_sem]) rfl ⟨rfl, by go_grown⟩
    · by_cases h0 : x < 0
      all_goals
        go_enter Try.func52, Try.ntmps52
        go_wp2_with fail
        refine bodyPost_ret (v := .tuple #[.agg #[.int .i64 0, .int .i64 0], .int .i64 1]) (by simp [results, Try.results52, go_sem]) rfl ⟨rfl, by go_grown⟩
  · have hR : reduceR x y = low x.toNat y.toNat := by rw [reduceR, if_neg h1]
    rw [hR]
    clear hR
    obtain ⟨a, rfl⟩ := Int.eq_ofNat_of_zero_le (show 0 ≤ x by omega)
    obtain ⟨b, rfl⟩ := Int.eq_ofNat_of_zero_le (show 0 ≤ y by omega)
    simp only [Int.toNat_natCast]
    have g1 : ¬ ((a : Int) < 0) := by omega
    have g2 : ¬ ((b : Int) < 1) := by omega
    go_enter Try.func52, Try.ntmps52
    go_wp2_with (go_at_call 71; refine (product1_any _ _ a b _ (by simp) (by simp) (by simp) (by omega) (by omega) (by omega)).mono ?_; rintro e w1 ⟨rfl, hb⟩; obtain ⟨hc, hf⟩ := bcell hb)
    have r1 : w1.cell? ⟨w.heap.size, 0, none⟩ = some (.int .i64 0) := keepc hb (by simp)
    have r2 : w1.cell? ⟨w.heap.size, 1, none⟩ = some (.int .i64 0) := keepc hb (by simp)
    refine bodyPost_ret (v := (low a b).val) (by simp [results, Try.results52, go_sem, r1, r2]) rfl ⟨rfl, ?_⟩
    exact ((((Below.refl _ _).alloc (Nat.le_refl _) _).alloc (by simp) _).trans (hb.mono (by simp; omega))).setCell (by simp) _ |>.setCell (by simp) _

/-- Times, Plus. -/
def timesR (a b c d : Int) : Res := if okRatio a b && okRatio c d then low (a.toNat * c.toNat) (b.toNat * d.toNat) else ⟨0, 0, 71⟩
def plusR (a b c d : Int) : Res := if okRatio a b && okRatio c d then low (a.toNat * d.toNat + c.toNat * b.toNat) (b.toNat * d.toNat) else ⟨0, 0, 71⟩

set_option maxHeartbeats 1000000 in
theorem times_any (a b c d : Int) (w : World) :
    Calls Try.prog 35 #[.agg #[.int .i64 a, .int .i64 b], .agg #[.int .i64 c, .int .i64 d]] w fun e w' => e = .returned (timesR a b c d).val ∧ Below w.heap.size w w' := by
  by_cases h1 : okRatio a b = true
  · by_cases h2 : okRatio c d = true
    · have hR : timesR a b c d = low (a.toNat * c.toNat) (b.toNat * d.toNat) := by rw [timesR, h1, h2]; rfl
      rw [hR]
      clear hR
      have b1 := okRatio_bounds h1
      have b2 := okRatio_bounds h2
      obtain ⟨a, rfl⟩ := Int.eq_ofNat_of_zero_le (show 0 ≤ a by omega)
      obtain ⟨b, rfl⟩ := Int.eq_ofNat_of_zero_le (show 0 ≤ b by omega)
      obtain ⟨c, rfl⟩ := Int.eq_ofNat_of_zero_le (show 0 ≤ c by omega)
      obtain ⟨d, rfl⟩ := Int.eq_ofNat_of_zero_le (show 0 ≤ d by omega)
      simp only [Int.toNat_natCast] at b1 b2 ⊢
      have B := Lib.hid (And.intro b1 b2)
      clear b1 b2
      go_enter Try.func35, Try.ntmps35
      go_wp2_with fail
      refine (validRatio_any _ _ _).mono ?_
      rintro e w1 ⟨rfl, hb1⟩
      have A : Bk w1 w.heap.size 42 #[.int .i64 a, .int .i64 b] := (((bk_last rfl).alloc _).alloc _).keep hb1
      have C : Bk w1 (w.heap.size + 1) 42 #[.int .i64 c, .int .i64 d] := ((bk_last (by simp)).alloc _).keep hb1
      have E : Bk w1 (w.heap.size + 1 + 1) 42 #[.int .i64 0, .int .i64 0] := (bk_last (by simp)).keep hb1
      have hB1 : Below w.heap.size w w1 := ((((Below.refl _ _).alloc (Nat.le_refl _) _).alloc (by simp) _).alloc (by simp; omega) _).trans (hb1.mono (by simp; omega))
      have hz1 := hb1.size
      simp at hz1
      clear hb1
      have ac0 := A.cell 0
      have ac1 := A.cell 1
      have cc0 := C.cell 0
      have cc1 := C.cell 1
      simp at ac0 ac1 cc0 cc1
      go_wp2_with fail
      refine (validRatio_any _ _ _).mono ?_
      rintro e w2 ⟨rfl, hb2⟩
      have hz2 := hb2.size
      replace A := A.keep hb2
      replace C := C.keep hb2
      replace E := E.keep hb2
      have hB2 := hB1.trans (hb2.mono hB1.size)
      clear hb2 hB1 ac0 ac1 cc0 cc1
      have ac0 := A.cell 0
      have ac1 := A.cell 1
      have cc0 := C.cell 0
      have cc1 := C.cell 1
      simp at ac0 ac1 cc0 cc1
      go_wp2_with fail
      refine wp_region_extmix 4 (by kernel_rfl) (by kernel_rfl) (fun _ _ d _ _ h => by cases d <;> exact h) ?_
      simp only [List.take_succ_cons, List.take_zero, List.drop_succ_cons, List.drop_zero]
      have F1 := fun x : Ext w2 => keepc x.bel ac0
      have F2 := fun x : Ext w2 => keepc x.bel ac1
      have F3 := fun x : Ext w2 => keepc x.bel cc0
      have F4 := fun x : Ext w2 => keepc x.bel cc1
      clear ac0 ac1 cc0 cc1
      repeat (go_big_quiet_step ((go_at_call 72; exact ext_of (of_any _ _ _))))
      refine wpQuiet_nil ?_
      rintro _ ⟨x, rfl⟩
      clear F1 F2 F3 F4
      have hb3 := x.bel
      generalize x.w = w3 at hb3 ⊢
      have hz3 := hb3.size
      replace E := E.keep hb3
      have hB3 := hB2.trans (hb3.mono hB2.size)
      clear hb3 hB2
      go_wp2_with fail
      have hbB := B.out
      refine (product2_any _ _ a b c d _ (by simp) (by simp [go_sem]) (by simp [go_sem]) (by simp [go_sem]) (by simp [go_sem]) (by omega) (by omega) (by omega) (by omega) (by omega) (by omega)).mono ?_
      clear hbB
      rintro e w4 ⟨rfl, hb4⟩
      have hb5 : Below w3.heap.size w3 w4 := ((Below.refl _ _).alloc (Nat.le_refl _) _).trans (hb4.mono (by simp))
      have hz4 := hb5.size
      replace E := E.keep hb5
      have hB4 := hB3.trans (hb5.mono hB3.size)
      clear hb4 hb5 hB3 A C
      have e0 := E.cell 0
      have e1 := E.cell 1
      have e2 := E.fz 0
      have e3 := E.fz 1
      simp at e0 e1
      go_wp2_with fail
      refine bodyPost_ret (v := (low (a * c) (b * d)).val) (by simp [results, Try.results35, go_sem, e0, e1]) rfl ⟨rfl, (hB4.setCell (by simp; omega) _).setCell (by simp; omega) _⟩
    · have hR : timesR a b c d = ⟨0, 0, 71⟩ := by rw [timesR]; simp [h2]
      rw [hR]
      clear hR
      have h2' : okRatio c d = false := by simpa using h2
      go_enter Try.func35, Try.ntmps35
      go_wp2_with fail
      refine (validRatio_any _ _ _).mono ?_
      rintro e w1 ⟨rfl, hb1⟩
      have A : Bk w1 w.heap.size 42 #[.int .i64 a, .int .i64 b] := (((bk_last rfl).alloc _).alloc _).keep hb1
      have C : Bk w1 (w.heap.size + 1) 42 #[.int .i64 c, .int .i64 d] := ((bk_last (by simp)).alloc _).keep hb1
      have E : Bk w1 (w.heap.size + 1 + 1) 42 #[.int .i64 0, .int .i64 0] := (bk_last (by simp)).keep hb1
      have hB1 : Below w.heap.size w w1 := ((((Below.refl _ _).alloc (Nat.le_refl _) _).alloc (by simp) _).alloc (by simp; omega) _).trans (hb1.mono (by simp; omega))
      have hz1 := hb1.size
      simp at hz1
      clear hb1
      have cc0 := C.cell 0
      have cc1 := C.cell 1
      simp at cc0 cc1
      go_wp2_with fail
      refine (validRatio_any _ _ _).mono ?_
      rintro e w2 ⟨rfl, hb2⟩
      have hz2 := hb2.size
      replace E := E.keep hb2
      have hB2 := hB1.trans (hb2.mono hB1.size)
      clear hb2 hB1 A C cc0 cc1
      have e0 := E.cell 0
      have e1 := E.cell 1
      have e2 := E.fz 0
      have e3 := E.fz 1
      simp at e0 e1
      go_wp2_with fail
      refine bodyPost_ret (v := .tuple #[.agg #[.int .i64 0, .int .i64 0], .int .i64 71]) (by simp [results, Try.results35, go_sem, e0, e1]) rfl ⟨rfl, (hB2.setCell (by simp; omega) _).setCell (by simp; omega) _⟩
  · have hR : timesR a b c d = ⟨0, 0, 71⟩ := by rw [timesR]; simp [h1]
    rw [hR]
    clear hR
    have h1' : okRatio a b = false := by simpa using h1
    go_enter Try.func35, Try.ntmps35
    go_wp2_with fail
    refine (validRatio_any _ _ _).mono ?_
    rintro e w1 ⟨rfl, hb1⟩
    have A : Bk w1 w.heap.size 42 #[.int .i64 a, .int .i64 b] := (((bk_last rfl).alloc _).alloc _).keep hb1
    have C : Bk w1 (w.heap.size + 1) 42 #[.int .i64 c, .int .i64 d] := ((bk_last (by simp)).alloc _).keep hb1
    have E : Bk w1 (w.heap.size + 1 + 1) 42 #[.int .i64 0, .int .i64 0] := (bk_last (by simp)).keep hb1
    have hB1 : Below w.heap.size w w1 := ((((Below.refl _ _).alloc (Nat.le_refl _) _).alloc (by simp) _).alloc (by simp; omega) _).trans (hb1.mono (by simp; omega))
    have hz1 := hb1.size
    simp at hz1
    clear hb1
    have e0 := E.cell 0
    have e1 := E.cell 1
    have e2 := E.fz 0
    have e3 := E.fz 1
    simp at e0 e1
    go_wp2_with fail
    refine bodyPost_ret (v := .tuple #[.agg #[.int .i64 0, .int .i64 0], .int .i64 71]) (by simp [results, Try.results35, go_sem, e0, e1]) rfl ⟨rfl, (hB1.setCell (by simp; omega) _).setCell (by simp; omega) _⟩

set_option maxHeartbeats 1000000 in
theorem plus_any (a b c d : Int) (w : World) :
    Calls Try.prog 36 #[.agg #[.int .i64 a, .int .i64 b], .agg #[.int .i64 c, .int .i64 d]] w fun e w' => e = .returned (plusR a b c d).val ∧ Below w.heap.size w w' := by
  by_cases h1 : okRatio a b = true
  · by_cases h2 : okRatio c d = true
    · have hR : plusR a b c d = low (a.toNat * d.toNat + c.toNat * b.toNat) (b.toNat * d.toNat) := by rw [plusR, h1, h2]; rfl
      rw [hR]
      clear hR
      have b1 := okRatio_bounds h1
      have b2 := okRatio_bounds h2
      obtain ⟨a, rfl⟩ := Int.eq_ofNat_of_zero_le (show 0 ≤ a by omega)
      obtain ⟨b, rfl⟩ := Int.eq_ofNat_of_zero_le (show 0 ≤ b by omega)
      obtain ⟨c, rfl⟩ := Int.eq_ofNat_of_zero_le (show 0 ≤ c by omega)
      obtain ⟨d, rfl⟩ := Int.eq_ofNat_of_zero_le (show 0 ≤ d by omega)
      simp only [Int.toNat_natCast] at b1 b2 ⊢
      have B := Lib.hid (And.intro b1 b2)
      clear b1 b2
      go_enter Try.func36, Try.ntmps36
      go_wp2_with fail
      refine (validRatio_any _ _ _).mono ?_
      rintro e w1 ⟨rfl, hb1⟩
      have A : Bk w1 w.heap.size 42 #[.int .i64 a, .int .i64 b] := (((bk_last rfl).alloc _).alloc _).keep hb1
      have C : Bk w1 (w.heap.size + 1) 42 #[.int .i64 c, .int .i64 d] := ((bk_last (by simp)).alloc _).keep hb1
      have E : Bk w1 (w.heap.size + 1 + 1) 42 #[.int .i64 0, .int .i64 0] := (bk_last (by simp)).keep hb1
      have hB1 : Below w.heap.size w w1 := ((((Below.refl _ _).alloc (Nat.le_refl _) _).alloc (by simp) _).alloc (by simp; omega) _).trans (hb1.mono (by simp; omega))
      have hz1 := hb1.size
      simp at hz1
      clear hb1
      have ac0 := A.cell 0
      have ac1 := A.cell 1
      have cc0 := C.cell 0
      have cc1 := C.cell 1
      simp at ac0 ac1 cc0 cc1
      go_wp2_with fail
      refine (validRatio_any _ _ _).mono ?_
      rintro e w2 ⟨rfl, hb2⟩
      have hz2 := hb2.size
      replace A := A.keep hb2
      replace C := C.keep hb2
      replace E := E.keep hb2
      have hB2 := hB1.trans (hb2.mono hB1.size)
      clear hb2 hB1 ac0 ac1 cc0 cc1
      have ac0 := A.cell 0
      have ac1 := A.cell 1
      have cc0 := C.cell 0
      have cc1 := C.cell 1
      simp at ac0 ac1 cc0 cc1
      have m0 : 0 ≤ (a : Int) * (d : Int) := Int.mul_nonneg (by omega) (by omega)
      have n0 : (a : Int) * (d : Int) ≤ 1000000000000000000 := by have := Int.mul_le_mul (show (a : Int) ≤ 1000000000 by have := B.out; omega) (show (d : Int) ≤ 1000000000 by have := B.out; omega) (by omega) (by omega); omega
      have m1 : 0 ≤ (c : Int) * (b : Int) := Int.mul_nonneg (by omega) (by omega)
      have n1 : (c : Int) * (b : Int) ≤ 1000000000000000000 := by have := Int.mul_le_mul (show (c : Int) ≤ 1000000000 by have := B.out; omega) (show (b : Int) ≤ 1000000000 by have := B.out; omega) (by omega) (by omega); omega
      have m2 : 0 ≤ (b : Int) * (d : Int) := Int.mul_nonneg (by omega) (by omega)
      have n2 : (b : Int) * (d : Int) ≤ 1000000000000000000 := by have := Int.mul_le_mul (show (b : Int) ≤ 1000000000 by have := B.out; omega) (show (d : Int) ≤ 1000000000 by have := B.out; omega) (by omega) (by omega); omega
      have k2 : 1 ≤ b * d := Nat.mul_pos (by have := B.out; omega) (by have := B.out; omega)
      have u0 : a * d ≤ 1000000000000000000 := by rw [← Int.natCast_mul] at n0; omega
      have u1 : c * b ≤ 1000000000000000000 := by rw [← Int.natCast_mul] at n1; omega
      have u2 : b * d ≤ 1000000000000000000 := by rw [← Int.natCast_mul] at n2; omega
      go_wp2_with fail
      have hbB := B.out
      refine (product1_any _ _ (a * d + c * b) (b * d) _ (by simp) (by simp [go_sem]) (by simp [go_sem]) (by omega) (by omega) (by omega)).mono ?_
      clear hbB
      rintro e w4 ⟨rfl, hb4⟩
      have hb5 : Below w2.heap.size w2 w4 := ((Below.refl _ _).alloc (Nat.le_refl _) _).trans (hb4.mono (by simp))
      have hz4 := hb5.size
      replace E := E.keep hb5
      have hB4 := hB2.trans (hb5.mono hB2.size)
      clear hb4 hb5 hB2 A C
      have e0 := E.cell 0
      have e1 := E.cell 1
      have e2 := E.fz 0
      have e3 := E.fz 1
      simp at e0 e1
      go_wp2_with fail
      refine bodyPost_ret (v := (low (a * d + c * b) (b * d)).val) (by simp [results, Try.results36, go_sem, e0, e1]) rfl ⟨rfl, (hB4.setCell (by simp; omega) _).setCell (by simp; omega) _⟩
    · have hR : plusR a b c d = ⟨0, 0, 71⟩ := by rw [plusR]; simp [h2]
      rw [hR]
      clear hR
      have h2' : okRatio c d = false := by simpa using h2
      go_enter Try.func36, Try.ntmps36
      go_wp2_with fail
      refine (validRatio_any _ _ _).mono ?_
      rintro e w1 ⟨rfl, hb1⟩
      have A : Bk w1 w.heap.size 42 #[.int .i64 a, .int .i64 b] := (((bk_last rfl).alloc _).alloc _).keep hb1
      have C : Bk w1 (w.heap.size + 1) 42 #[.int .i64 c, .int .i64 d] := ((bk_last (by simp)).alloc _).keep hb1
      have E : Bk w1 (w.heap.size + 1 + 1) 42 #[.int .i64 0, .int .i64 0] := (bk_last (by simp)).keep hb1
      have hB1 : Below w.heap.size w w1 := ((((Below.refl _ _).alloc (Nat.le_refl _) _).alloc (by simp) _).alloc (by simp; omega) _).trans (hb1.mono (by simp; omega))
      have hz1 := hb1.size
      simp at hz1
      clear hb1
      have cc0 := C.cell 0
      have cc1 := C.cell 1
      simp at cc0 cc1
      go_wp2_with fail
      refine (validRatio_any _ _ _).mono ?_
      rintro e w2 ⟨rfl, hb2⟩
      have hz2 := hb2.size
      replace E := E.keep hb2
      have hB2 := hB1.trans (hb2.mono hB1.size)
      clear hb2 hB1 A C cc0 cc1
      have e0 := E.cell 0
      have e1 := E.cell 1
      have e2 := E.fz 0
      have e3 := E.fz 1
      simp at e0 e1
      go_wp2_with fail
      refine bodyPost_ret (v := .tuple #[.agg #[.int .i64 0, .int .i64 0], .int .i64 71]) (by simp [results, Try.results36, go_sem, e0, e1]) rfl ⟨rfl, (hB2.setCell (by simp; omega) _).setCell (by simp; omega) _⟩
  · have hR : plusR a b c d = ⟨0, 0, 71⟩ := by rw [plusR]; simp [h1]
    rw [hR]
    clear hR
    have h1' : okRatio a b = false := by simpa using h1
    go_enter Try.func36, Try.ntmps36
    go_wp2_with fail
    refine (validRatio_any _ _ _).mono ?_
    rintro e w1 ⟨rfl, hb1⟩
    have A : Bk w1 w.heap.size 42 #[.int .i64 a, .int .i64 b] := (((bk_last rfl).alloc _).alloc _).keep hb1
    have C : Bk w1 (w.heap.size + 1) 42 #[.int .i64 c, .int .i64 d] := ((bk_last (by simp)).alloc _).keep hb1
    have E : Bk w1 (w.heap.size + 1 + 1) 42 #[.int .i64 0, .int .i64 0] := (bk_last (by simp)).keep hb1
    have hB1 : Below w.heap.size w w1 := ((((Below.refl _ _).alloc (Nat.le_refl _) _).alloc (by simp) _).alloc (by simp; omega) _).trans (hb1.mono (by simp; omega))
    have hz1 := hb1.size
    simp at hz1
    clear hb1
    have e0 := E.cell 0
    have e1 := E.cell 1
    have e2 := E.fz 0
    have e3 := E.fz 1
    simp at e0 e1
    go_wp2_with fail
    refine bodyPost_ret (v := .tuple #[.agg #[.int .i64 0, .int .i64 0], .int .i64 71]) (by simp [results, Try.results36, go_sem, e0, e1]) rfl ⟨rfl, (hB1.setCell (by simp; omega) _).setCell (by simp; omega) _⟩

/-- cmp.Compare. -/
def cmpI (x y : Int) : Int := if x < y then -1 else if y < x then 1 else 0

theorem isNaN_any (x : Int) (w : World) : Calls Try.prog 96 #[.int .i64 x] w fun e w' => e = .returned (.bool false) ∧ w = w' := by
  go_enter Try.func96, Try.ntmps96
  go_wp2
  go_ret
  exact ⟨ret_bool (by simp), rfl⟩

set_option maxHeartbeats 400000 in
theorem cmp_any (x y : Int) (w : World) : Calls Try.prog 89 #[.int .i64 x, .int .i64 y] w fun e w' => e = .returned (.int .i64 (cmpI x y)) ∧ w = w' := by
  rcases Int.lt_trichotomy x y with h | h | h
  · go_enter Try.func89, Try.ntmps89
    go_wp2_with (go_at_call 96; refine (isNaN_any _ _).mono ?_; rintro e w' ⟨rfl, rfl⟩)
    go_ret
    exact ⟨ret_int (by rw [cmpI, if_pos h]), rfl⟩
  · subst h
    go_enter Try.func89, Try.ntmps89
    go_wp2_with (go_at_call 96; refine (isNaN_any _ _).mono ?_; rintro e w' ⟨rfl, rfl⟩)
    go_ret
    exact ⟨ret_int (by simp [cmpI]), rfl⟩
  · have h' : ¬ x < y := by omega
    go_enter Try.func89, Try.ntmps89
    go_wp2_with (go_at_call 96; refine (isNaN_any _ _).mono ?_; rintro e w' ⟨rfl, rfl⟩)
    go_ret
    exact ⟨ret_int (by rw [cmpI, if_neg (by omega), if_pos h]), rfl⟩

def compareR (a b c d : Int) : Int × Int := if okRatio a b && okRatio c d then (cmpI (a * d) (c * b), 0) else (0, 71)

set_option maxHeartbeats 1000000 in
theorem compare_any (a b c d : Int) (w : World) :
    Calls Try.prog 51 #[.agg #[.int .i64 a, .int .i64 b], .agg #[.int .i64 c, .int .i64 d]] w fun e w' => e = .returned (.tuple #[.int .i64 (compareR a b c d).1, .int .i64 (compareR a b c d).2]) ∧ Below w.heap.size w w' := by
  by_cases h1 : okRatio a b = true
  · by_cases h2 : okRatio c d = true
    · have hR : compareR a b c d = (cmpI (a * d) (c * b), 0) := by rw [compareR, h1, h2]; rfl
      rw [hR]
      clear hR
      have b1 := okRatio_bounds h1
      have b2 := okRatio_bounds h2
      obtain ⟨a, rfl⟩ := Int.eq_ofNat_of_zero_le (show 0 ≤ a by omega)
      obtain ⟨b, rfl⟩ := Int.eq_ofNat_of_zero_le (show 0 ≤ b by omega)
      obtain ⟨c, rfl⟩ := Int.eq_ofNat_of_zero_le (show 0 ≤ c by omega)
      obtain ⟨d, rfl⟩ := Int.eq_ofNat_of_zero_le (show 0 ≤ d by omega)
      simp only [Int.toNat_natCast] at b1 b2 ⊢
      have B := Lib.hid (And.intro b1 b2)
      clear b1 b2
      go_enter Try.func51, Try.ntmps51
      go_wp2_with fail
      refine (validRatio_any _ _ _).mono ?_
      rintro e w1 ⟨rfl, hb1⟩
      have A : Bk w1 w.heap.size 42 #[.int .i64 a, .int .i64 b] := ((bk_last rfl).alloc _).keep hb1
      have C : Bk w1 (w.heap.size + 1) 42 #[.int .i64 c, .int .i64 d] := (bk_last (by simp)).keep hb1
      have hB1 : Below w.heap.size w w1 := (((Below.refl _ _).alloc (Nat.le_refl _) _).alloc (by simp) _).trans (hb1.mono (by simp; omega))
      have hz1 := hb1.size
      simp at hz1
      clear hb1
      have ac0 := A.cell 0
      have ac1 := A.cell 1
      have cc0 := C.cell 0
      have cc1 := C.cell 1
      simp at ac0 ac1 cc0 cc1
      go_wp2_with fail
      refine (validRatio_any _ _ _).mono ?_
      rintro e w2 ⟨rfl, hb2⟩
      have hz2 := hb2.size
      replace A := A.keep hb2
      replace C := C.keep hb2
      have hB2 := hB1.trans (hb2.mono hB1.size)
      clear hb2 hB1 ac0 ac1 cc0 cc1
      have ac0 := A.cell 0
      have ac1 := A.cell 1
      have cc0 := C.cell 0
      have cc1 := C.cell 1
      simp at ac0 ac1 cc0 cc1
      have m0 : 0 ≤ (a : Int) * (d : Int) := Int.mul_nonneg (by omega) (by omega)
      have n0 : (a : Int) * (d : Int) ≤ 1000000000000000000 := by have := Int.mul_le_mul (show (a : Int) ≤ 1000000000 by have := B.out; omega) (show (d : Int) ≤ 1000000000 by have := B.out; omega) (by omega) (by omega); omega
      have m1 : 0 ≤ (c : Int) * (b : Int) := Int.mul_nonneg (by omega) (by omega)
      have n1 : (c : Int) * (b : Int) ≤ 1000000000000000000 := by have := Int.mul_le_mul (show (c : Int) ≤ 1000000000 by have := B.out; omega) (show (b : Int) ≤ 1000000000 by have := B.out; omega) (by omega) (by omega); omega
      go_wp2_with (go_at_call 89; refine (cmp_any _ _ _).mono ?_; rintro e w' ⟨rfl, rfl⟩)
      go_ret2
      exact ⟨rfl, hB2⟩

    · have hR : compareR a b c d = (0, 71) := by rw [compareR]; simp [h2]
      rw [hR]
      clear hR
      have h2' : okRatio c d = false := by simpa using h2
      go_enter Try.func51, Try.ntmps51
      go_wp2_with fail
      refine (validRatio_any _ _ _).mono ?_
      rintro e w1 ⟨rfl, hb1⟩
      have A : Bk w1 w.heap.size 42 #[.int .i64 a, .int .i64 b] := ((bk_last rfl).alloc _).keep hb1
      have C : Bk w1 (w.heap.size + 1) 42 #[.int .i64 c, .int .i64 d] := (bk_last (by simp)).keep hb1
      have hB1 : Below w.heap.size w w1 := (((Below.refl _ _).alloc (Nat.le_refl _) _).alloc (by simp) _).trans (hb1.mono (by simp; omega))
      have hz1 := hb1.size
      simp at hz1
      clear hb1
      have cc0 := C.cell 0
      have cc1 := C.cell 1
      simp at cc0 cc1
      go_wp2_with fail
      refine (validRatio_any _ _ _).mono ?_
      rintro e w2 ⟨rfl, hb2⟩
      have hz2 := hb2.size
      have hB2 := hB1.trans (hb2.mono hB1.size)
      clear hb2 hB1 A C cc0 cc1
      go_wp2_with fail
      go_ret2
      exact ⟨rfl, hB2⟩
  · have hR : compareR a b c d = (0, 71) := by rw [compareR]; simp [h1]
    rw [hR]
    clear hR
    have h1' : okRatio a b = false := by simpa using h1
    go_enter Try.func51, Try.ntmps51
    go_wp2_with fail
    refine (validRatio_any _ _ _).mono ?_
    rintro e w1 ⟨rfl, hb1⟩
    have A : Bk w1 w.heap.size 42 #[.int .i64 a, .int .i64 b] := ((bk_last rfl).alloc _).keep hb1
    have C : Bk w1 (w.heap.size + 1) 42 #[.int .i64 c, .int .i64 d] := (bk_last (by simp)).keep hb1
    have hB1 : Below w.heap.size w w1 := (((Below.refl _ _).alloc (Nat.le_refl _) _).alloc (by simp) _).trans (hb1.mono (by simp; omega))
    have hz1 := hb1.size
    simp at hz1
    clear hb1
    go_wp2_with fail
    go_ret2
    exact ⟨rfl, hB1⟩


end Go.Proofs.Ytheifigkclegdaa
