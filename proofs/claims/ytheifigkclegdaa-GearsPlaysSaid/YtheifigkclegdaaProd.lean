/-
  What is proved: the contract of gears.product: the lowest terms of a product of fractions. Conditions: as stated.
-/
import Derived.Test.YtheifigkclegdaaMem
namespace Go.Proofs.Ytheifigkclegdaa
open Go.RowKit

def Res.val (r : Res) : Value := .tuple #[.agg #[.int .i64 r.num, .int .i64 r.den], .int .i64 r.err]

def fracCells (N D : List Nat) : List Value := (N.zip D).flatMap fun p => [.int .i64 p.1, .int .i64 p.2]
theorem fracCells_len (N D : List Nat) (h : D.length = N.length) : (fracCells N D).length = N.length * 2 := by
  have := flat_len (fun p : Nat × Nat => [Value.int .i64 p.1, Value.int .i64 p.2]) 2 (fun _ => rfl) (N.zip D)
  rw [List.length_zip, h, Nat.min_self] at this
  exact this
theorem fracCells_one (N D : List Nat) : oneCells (fracCells N D) := by
  intro u hu
  simp only [fracCells, List.mem_flatMap] at hu
  obtain ⟨p, _, hp⟩ := hu
  simp at hp
  rcases hp with rfl | rfl <;> rfl
theorem fracCells_get (N D : List Nat) (h : D.length = N.length) (j : Nat) (hj : j < N.length) :
    (fracCells N D)[j * 2]? = some (.int .i64 (N.getD j 1)) ∧ (fracCells N D)[j * 2 + 1]? = some (.int .i64 (D.getD j 1)) := by
  have hz : j < (N.zip D).length := by rw [List.length_zip, h, Nat.min_self]; exact hj
  have e1 := flat_get (fun p : Nat × Nat => [Value.int .i64 p.1, Value.int .i64 p.2]) 2 (fun _ => rfl) (by omega) (N.zip D) j 0 hz (by omega)
  have e2 := flat_get (fun p : Nat × Nat => [Value.int .i64 p.1, Value.int .i64 p.2]) 2 (fun _ => rfl) (by omega) (N.zip D) j 1 hz (by omega)
  have hD : j < D.length := by omega
  constructor
  · simpa [fracCells, List.getD_eq_getElem?_getD, hj, hD] using e1
  · simpa [fracCells, List.getD_eq_getElem?_getD, hj, hD] using e2

/-- Block g holds these fractions. -/
def FracBk (w : World) (g : Nat) (N D : List Nat) : Prop :=
  ∃ cur : Array Value, Bk w g 89 cur ∧ ∀ j, j < N.length → cur[j * 2]? = some (.int .i64 (N.getD j 1)) ∧ cur[j * 2 + 1]? = some (.int .i64 (D.getD j 1))
section
variable {w w' : World} {g : Nat} {N D : List Nat}
theorem FracBk.cell (h : FracBk w g N D) (j : Nat) (hj : j < N.length) : w.cell? ⟨g, j * 2, none⟩ = some (.int .i64 (N.getD j 1)) ∧ w.cell? ⟨g, j * 2 + 1, none⟩ = some (.int .i64 (D.getD j 1)) := by
  obtain ⟨cur, hb, hc⟩ := h
  rw [hb.cell, hb.cell]
  exact hc j hj
theorem FracBk.fz (h : FracBk w g N D) (i : Nat) : w.frozen? ⟨g, i, none⟩ = false := by
  obtain ⟨cur, hb, _⟩ := h
  exact hb.fz i
theorem FracBk.drewN (h : FracBk w g N D) (n : Nat) : FracBk (w.drewN n) g N D := h
theorem FracBk.far (h : FracBk w g N D) {p : Addr} (hp : g ≠ p.block) (u : Value) : FracBk (w.setCell p u) g N D := by
  obtain ⟨cur, hb, hc⟩ := h
  exact ⟨cur, hb.far hp u, hc⟩
theorem FracBk.alloc (h : FracBk w g N D) (o : Obj) : FracBk (w.alloc o) g N D := by
  obtain ⟨cur, hb, hc⟩ := h
  exact ⟨cur, hb.alloc o, hc⟩
theorem FracBk.setN (h : FracBk w g N D) (i x : Nat) (hi : i < N.length) : FracBk (w.setCell ⟨g, i * 2, none⟩ (.int .i64 x)) g (N.set i x) D := by
  obtain ⟨cur, hb, hc⟩ := h
  refine ⟨_, hb.put (i * 2) (.int .i64 x), fun j hj => ?_⟩
  have hj' : j < N.length := by simpa using hj
  have hs : i * 2 < cur.size := by
    have := (hc i hi).1
    exact (Array.getElem?_eq_some_iff.1 this).1
  obtain ⟨h1, h2⟩ := hc j hj'
  refine ⟨?_, by rw [Array.getElem?_setIfInBounds, if_neg (by omega)]; exact h2⟩
  rw [Array.getElem?_setIfInBounds, getD_set]
  by_cases e : i = j
  · subst e
    simp [hs, hi]
  · rw [if_neg (by omega), if_neg (by omega)]
    exact h1
theorem FracBk.setD (h : FracBk w g N D) (i x : Nat) (hi : i < N.length) (hl : D.length = N.length) : FracBk (w.setCell ⟨g, i * 2 + 1, none⟩ (.int .i64 x)) g N (D.set i x) := by
  obtain ⟨cur, hb, hc⟩ := h
  refine ⟨_, hb.put (i * 2 + 1) (.int .i64 x), fun j hj => ?_⟩
  have hs : i * 2 + 1 < cur.size := by
    have := (hc i hi).2
    exact (Array.getElem?_eq_some_iff.1 this).1
  obtain ⟨h1, h2⟩ := hc j hj
  refine ⟨by rw [Array.getElem?_setIfInBounds, if_neg (by omega)]; exact h1, ?_⟩
  rw [Array.getElem?_setIfInBounds, getD_set]
  by_cases e : i = j
  · subst e
    simp [hs, hl, hi]
  · rw [if_neg (by omega), if_neg (by omega)]
    exact h2
end

theorem frac_own {w : World} {base : Nat} {v : Value} {N D : List Nat} (h : w.ownsRow base 89 2 v N.length (fracCells N D)) (h0 : 0 < N.length) (hl : D.length = N.length) :
    ∃ g cap, v = .slice (some ⟨g, 0, none⟩) N.length cap ∧ base ≤ g ∧ FracBk w g N D := by
  obtain ⟨g, cap, cur, hv, hb, hg, _, _, hx⟩ := own_some h h0
  refine ⟨g, cap, hv, hb, cur, hg, fun j hj => ?_⟩
  obtain ⟨h1, h2⟩ := fracCells_get N D hl j hj
  exact ⟨hx _ _ h1, hx _ _ h2⟩

/-- What holds at the head of a round of product's reduction. -/
structure PS (N D : List Nat) (w : World) (g o m i k : Nat) (wr : World) (Ns Ds : List Nat) : Prop where
  nz : ∀ j, j < m → 1 ≤ Ns.getD j 1
  fr : FracBk wr g Ns Ds
  red : Red N D Ns Ds 9223372036854775807 i k
  res : Bk wr w.heap.size 42 #[.int .i64 0, .int .i64 0]
  out : Bk wr o 89 #[.int .i64 1, .int .i64 1]
  bel : Below w.heap.size w wr
  rg : w.heap.size < g
  go : g < o

theorem PS.len {N D : List Nat} {w : World} {g o m i k : Nat} {wr : World} {Ns Ds : List Nat} (h : PS N D w g o m i k wr Ns Ds) (hl : D.length = N.length) : Ns.length = N.length ∧ Ds.length = N.length :=
  ⟨h.red.lenN, h.red.lenD.trans hl⟩

theorem PS.cells {N D : List Nat} {w : World} {g o m i k : Nat} {wr : World} {Ns Ds : List Nat} (h : PS N D w g o m i k wr Ns Ds) (hl : D.length = N.length) (hi : i < N.length) (hk : k < N.length) :
    ∃ a b : Nat, wr.cell? ⟨g, i * 2, none⟩ = some (.int .i64 a) ∧ wr.cell? ⟨g, k * 2 + 1, none⟩ = some (.int .i64 b) ∧ a ≤ 9223372036854775807 ∧ 1 ≤ b ∧ b ≤ 9223372036854775807 ∧
      (∀ x : Int, ((wr.setCell ⟨g, i * 2, none⟩ (.int .i64 x)).cell? ⟨g, k * 2 + 1, none⟩) = some (.int .i64 b)) ∧
      ∀ n (x y : Int), x = (a : Int) / (Nat.gcd a b : Nat) → y = (b : Int) / (Nat.gcd a b : Nat) → ∃ Ns' Ds', PS N D w g o m i (k + 1) (((wr.drewN n).setCell ⟨g, i * 2, none⟩ (.int .i64 x)).setCell ⟨g, k * 2 + 1, none⟩ (.int .i64 y)) Ns' Ds' := by
  obtain ⟨l1, l2⟩ := h.len hl
  have hi' : i < Ns.length := by omega
  have hk' : k < Ds.length := by omega
  have ei : Ns.getD i 1 = Ns[i] := by simp [List.getD_eq_getElem?_getD, hi']
  have ek : Ds.getD k 1 = Ds[k] := by simp [List.getD_eq_getElem?_getD, hk']
  have c1 := (h.fr.cell i hi').1
  have c2 := (h.fr.cell k (by omega)).2
  refine ⟨Ns[i], Ds[k], by rw [c1, ei], by rw [c2, ek], ei ▸ h.red.leN i, ek ▸ h.red.posD k, ek ▸ h.red.leD k, fun x => ?_, fun n x y hx hy => ?_⟩
  · rw [World.cell?_setCell_other _ _ _ _ (by intro e; injection e; omega), c2, ek]
  · have ex : x = ((Ns[i] / Nat.gcd Ns[i] Ds[k] : Nat) : Int) := by rw [hx]; rfl
    have ey : y = ((Ds[k] / Nat.gcd Ns[i] Ds[k] : Nat) : Int) := by rw [hy]; rfl
    subst ex ey
    have f1 := (h.fr.drewN n).setN i (Ns[i] / Nat.gcd Ns[i] Ds[k]) hi'
    have f2 := f1.setD k (Ds[k] / Nat.gcd Ns[i] Ds[k]) (by simpa using (by omega : k < Ns.length)) (by simpa using (by omega : Ds.length = Ns.length))
    have hr := h.rg
    have ho := h.go
    refine ⟨_, _, fun j hj => ?_, f2, h.red.step hi' hk', ((h.res.drewN n).far (by simp; omega) _).far (by simp; omega) _, ((h.out.drewN n).far (by simp; omega) _).far (by simp; omega) _, ?_, h.rg, h.go⟩
    · rw [getD_set]
      split
      · rename_i hh
        obtain ⟨rfl, _⟩ := hh
        have h1 : 1 ≤ Ns[i] := ei ▸ h.nz i hj
        exact Nat.div_pos (Nat.gcd_le_left _ (by omega)) (Nat.gcd_pos_of_pos_left _ (by omega))
      · exact h.nz j hj
    exact ((below_drewN h.bel n).setCell (by simp; omega) _).setCell (by simp; omega) _

/-- What holds at the head of a round of product's last loop. -/
structure AS (w : World) (g o : Nat) (Ns Ds : List Nat) (j : Nat) (wr : World) : Prop where
  fr : FracBk wr g Ns Ds
  res : Bk wr w.heap.size 42 #[.int .i64 0, .int .i64 0]
  out : Bk wr o 89 #[.int .i64 (pr (Ns.take j) : Nat), .int .i64 (pr (Ds.take j) : Nat)]
  bel : Below w.heap.size w wr
  rg : w.heap.size < g
  go : g < o
  leN : pr (Ns.take j) ≤ 1000000000
  leD : pr (Ds.take j) ≤ 1000000000

theorem lt_of_i {p x : Nat} (h : (1000000000 : Int) / (p : Int) < (x : Int)) : 1000000000 / p < x := by
  have e : (1000000000 : Int) / (p : Int) = ((1000000000 / p : Nat) : Int) := by rw [Int.natCast_ediv]; rfl
  rw [e] at h
  omega
theorem le_of_i {p x : Nat} (h : (x : Int) ≤ (1000000000 : Int) / (p : Int)) : x ≤ 1000000000 / p := by
  have e : (1000000000 : Int) / (p : Int) = ((1000000000 / p : Nat) : Int) := by rw [Int.natCast_ediv]; rfl
  rw [e] at h
  omega
theorem mul_of_i (p x : Nat) (hp : 1 ≤ p) (h : (x : Int) ≤ (1000000000 : Int) / (p : Int)) : (p : Int) * x ≤ 1000000000 := by
  have h := (Nat.le_div_iff_mul_le (show 0 < p by omega)).1 (le_of_i h)
  rw [Nat.mul_comm] at h
  have h2 : ((p * x : Nat) : Int) ≤ 1000000000 := by omega
  rwa [Int.natCast_mul] at h2

theorem AS.open_ {w : World} {g o : Nat} {Ns Ds : List Nat} {j : Nat} {wr : World} (h : AS w g o Ns Ds j wr) (hj : j < Ns.length) (hl : Ds.length = Ns.length) (hN : ∀ x ∈ Ns, 1 ≤ x) (hD : ∀ x ∈ Ds, 1 ≤ x) :
    ∃ x y p q : Nat, wr.cell? ⟨g, j * 2, none⟩ = some (.int .i64 x) ∧ wr.cell? ⟨g, j * 2 + 1, none⟩ = some (.int .i64 y) ∧ wr.cell? ⟨o, 0, none⟩ = some (.int .i64 p) ∧ wr.cell? ⟨o, 1, none⟩ = some (.int .i64 q) ∧
      1 ≤ p ∧ p ≤ 1000000000 ∧ 1 ≤ q ∧ q ≤ 1000000000 ∧
      Hid ((((1000000000 : Int) / (p : Int) < (x : Int)) → ¬ pr Ns ≤ 1000000000) ∧ (((1000000000 : Int) / (q : Int) < (y : Int)) → ¬ pr Ds ≤ 1000000000) ∧ ((x : Int) ≤ (1000000000 : Int) / (p : Int) → (p : Int) * x ≤ 1000000000) ∧ ((y : Int) ≤ (1000000000 : Int) / (q : Int) → (q : Int) * y ≤ 1000000000) ∧
        ∀ (n : Nat) (c : Array Value) (X Y : Int), (x : Int) ≤ (1000000000 : Int) / (p : Int) → (y : Int) ≤ (1000000000 : Int) / (q : Int) → X = (p : Int) * x → Y = (q : Int) * y → AS w g o Ns Ds (j + 1) (((((wr.alloc (.cells c 89)).drewN n).setCell ⟨o, 0, none⟩ (.int .i64 X)).setCell ⟨o, 1, none⟩ (.int .i64 Y)))) := by
  have hd : j < Ds.length := by omega
  obtain ⟨c1, c2⟩ := h.fr.cell j hj
  have o1 := h.out.cell 0
  have o2 := h.out.cell 1
  have ei : Ns.getD j 1 = Ns[j] := by simp [List.getD_eq_getElem?_getD, hj]
  have ek : Ds.getD j 1 = Ds[j] := by simp [List.getD_eq_getElem?_getD, hd]
  have p1 : 1 ≤ pr (Ns.take j) := pr_pos _ fun x hx => hN x (List.mem_of_mem_take hx)
  have q1 : 1 ≤ pr (Ds.take j) := pr_pos _ fun x hx => hD x (List.mem_of_mem_take hx)
  refine ⟨Ns[j], Ds[j], pr (Ns.take j), pr (Ds.take j), by rw [c1, ei], by rw [c2, ek], by rw [o1]; rfl, by rw [o2]; rfl, p1, h.leN, q1, h.leD, fun hh => pr_too_much Ns j hj hN p1 (lt_of_i hh), fun hh => pr_too_much Ds j hd hD q1 (lt_of_i hh), mul_of_i _ _ p1, mul_of_i _ _ q1, fun n c X Y hx hy hX hY => ?_⟩
  have eX : X = ((pr (Ns.take (j + 1)) : Nat) : Int) := by rw [hX, pr_take_succ Ns j hj]; simp
  have eY : Y = ((pr (Ds.take (j + 1)) : Nat) : Int) := by rw [hY, pr_take_succ Ds j hd]; simp
  subst eX eY
  have hg := h.go
  have hr := h.rg
  have hb := (((h.out.alloc (.cells c 89)).drewN n).put 0 (.int .i64 (pr (Ns.take (j + 1)) : Nat))).put 1 (.int .i64 (pr (Ds.take (j + 1)) : Nat))
  refine ⟨((((h.fr.alloc _).drewN n).far (by simp; omega) _).far (by simp; omega) _), ((((h.res.alloc _).drewN n).far (by simp; omega) _).far (by simp; omega) _), by simpa using hb, ?_, h.rg, h.go, pr_fits Ns j hj p1 (le_of_i hx), pr_fits Ds j hd q1 (le_of_i hy)⟩
  exact ((below_drewN (h.bel.alloc h.bel.size _) n).setCell (by simp; omega) _).setCell (by simp; omega) _

set_option maxRecDepth 100000 in
set_option maxHeartbeats 2000000 in
theorem product_any (b off c : Nat) (N D : List Nat) (w : World) (hl : D.length = N.length) (h0 : 0 < N.length) (hn : N.length ≤ 4096) (hx : RowB w b off (fracCells N D))
    (hN : ∀ j, N.getD j 1 ≤ 9223372036854775807) (hD : ∀ j, D.getD j 1 ≤ 9223372036854775807) (hp : ∀ j, 1 ≤ D.getD j 1) :
    Calls Try.prog 71 #[.slice (some ⟨b, off, none⟩) N.length c] w fun e w' => e = .returned (low (pr N) (pr D)).val ∧ Below w.heap.size w w' := by
  have hst := Red.start N D _ hN hD hp
  have HX := Lib.hid (And.intro hx (And.intro hst hp))
  have HL := Lib.hid hl
  clear hx hst hp hN hD hl
  go_enter Try.func71, Try.ntmps71
  go_wp2_with (go_at_call 91; refine (clone_any _ _ _ _ _ _ (by omega) (fracCells_len N D HL.out) (fracCells_one N D) (HX.out.1.alloc _)).mono ?_; rintro e w1 ⟨v, rfl, hown, hb1⟩; obtain ⟨g, cap, rfl, hg, hf⟩ := frac_own hown h0 HL.out; clear hown)
  have hps : PS N D w g w1.heap.size 0 0 0 (w1.alloc (Obj.cells #[Value.int IntKind.i64 1, Value.int IntKind.i64 1] 89)) N D := by
    have hgl : g < w1.heap.size := by obtain ⟨cur, h, _⟩ := hf; exact h.lt
    simp only [World.size_alloc] at hg
    have hr1 : Bk w1 w.heap.size 42 #[.int .i64 0, .int .i64 0] := (Bk.new w 42 _).below hb1 (by simp)
    exact ⟨fun _ h => absurd h (by omega), hf.alloc _, HX.out.2.1, hr1.alloc _, Bk.new _ _ _, (((Below.refl _ _).alloc (Nat.le_refl _) _).trans (hb1.mono (by simp))).alloc (by have := hb1.size; simp at this; omega) _, by omega, hgl⟩
  clear hb1 hf hg
  go_loopw [15] (fun i wr => ∃ k : Nat, k ≤ N.length ∧ i = .int .i64 k ∧ ∃ Ns Ds, PS N D w g w1.heap.size k k 0 wr Ns Ds) (fun i _ => N.length - (intOf i).toNat)
  case atStart => exact ⟨0, Nat.zero_le _, rfl, N, D, hps⟩
  case round =>
    obtain ⟨i, hi, rfl, Ns, Ds, hP⟩ := hrel
    by_cases hlt : i < N.length
    · obtain ⟨l1, l2⟩ := hP.len HL.out
      have c1 := (hP.fr.cell i (by omega)).1
      have r1 := hP.res.cell 0
      have r2 := hP.res.cell 1
      have q1 := hP.res.fz 0
      have q2 := hP.res.fz 1
      simp at r1 r2
      generalize ha : Ns.getD i 1 = a at c1
      have HA := Lib.hid ha
      clear ha l1 l2
      by_cases ha0 : a = 0
      · subst ha0
        go_wp2
        refine bodyPost_ret (v := Value.tuple #[.agg #[.int .i64 0, .int .i64 1], .int .i64 0]) (by simp [results, Try.results71, go_sem, r1, r2]) rfl ⟨?_, ?_⟩
        · obtain ⟨l1, l2⟩ := hP.len HL.out
          have hN0 : Ns[i] = 0 := by have := HA.out; simpa [List.getD_eq_getElem?_getD, (by omega : i < Ns.length)] using this
          have hz := hP.red.zero (by omega) hN0 (fun d hd => by obtain ⟨j, rfl⟩ := mem_getD hd; exact HX.out.2.2 j)
          rw [hz]
          rfl
        · exact (hP.bel.setCell (by simp) _).setCell (by simp) _
      · have ha1 : ((a : Int) == 0) = false := by simp; omega
        go_wp2
        clear c1 r1 r2 q1 q2
        obtain ⟨wo, hwo⟩ : ∃ wo : World, wo = wr := ⟨_, rfl⟩
        subst hwo
        go_loopw [27] (fun j wr => ∃ k : Nat, k ≤ N.length ∧ j = .int .i64 k ∧ ∃ Ns Ds, PS N D w g w1.heap.size (i + 1) i k wr Ns Ds) (fun j _ => N.length - (intOf j).toNat)
        case atStart =>
          refine ⟨0, Nat.zero_le _, rfl, Ns, Ds, { hP with nz := fun j hj => ?_ }⟩
          rcases Nat.lt_or_ge j i with h | h
          · exact hP.nz j h
          · have : j = i := by omega
            subst this
            rw [HA.out]
            omega
        case round =>
          obtain ⟨k, hk, rfl, Ns', Ds', hQ⟩ := hrel
          by_cases hlk : k < N.length
          · obtain ⟨x, y, c1, c2, hx1, hy1, hy2, c3, hnext⟩ := hQ.cells HL.out hlt hlk
            have f1 := hQ.fr.fz (i * 2)
            have f2 := hQ.fr.fz (k * 2 + 1)
            have HN := Lib.hid hnext
            clear hnext
            have b1 : (i : Int) < (N.length : Int) := by omega
            have b2 : (k : Int) < (N.length : Int) := by omega
            have g1 : 1 ≤ ((Nat.gcd x y : Nat) : Int) := by have := Nat.gcd_pos_of_pos_right x (show 0 < y by omega); omega
            have g2 : (((Nat.gcd x y : Nat) : Int) == 0) = false := by simp; omega
            go_wp2
            go_quiet ((go_at_call 66; refine Calls.quiet_of (gcd_any _ _ _ hx1 hy2)))
            go_wp2
            have HW : Hid (∀ z : Nat, z ≤ 9223372036854775807 → wrap64 ((z : Int) / ((Nat.gcd x y : Nat) : Int)) = (z : Int) / ((Nat.gcd x y : Nat) : Int)) := fun z hz => by
              have e1 : 0 ≤ (z : Int) / ((Nat.gcd x y : Nat) : Int) := Int.ediv_nonneg (by omega) (by omega)
              have e2 : (z : Int) / ((Nat.gcd x y : Nat) : Int) ≤ z := Int.ediv_le_self _ (by omega)
              exact IntWalk.wrap64_in _ ⟨by omega, by omega⟩
            go_roundw
            case rel => exact ⟨k + 1, by omega, by go_num, HN.out _ _ _ (HW.out x hx1) (HW.out y hy2)⟩
            case measure => simp [intOf]; omega
          · have : k = N.length := by omega
            subst this
            go_wp2
            go_roundw
            case rel => exact ⟨i + 1, by omega, by go_num, _, _, { hQ with red := hQ.red.next (by have := (hQ.len HL.out).2; omega) }⟩
            case measure => simp [intOf]; omega
    · have : i = N.length := by omega
      subst this
      obtain ⟨l1, l2⟩ := hP.len HL.out
      have hfin := hP.red.done (by omega) (fun d hd => by obtain ⟨j, rfl⟩ := mem_getD hd; exact HX.out.2.2 j)
      have hnz : ∀ x ∈ Ns, 1 ≤ x := fun x hx => by
        obtain ⟨j, hj, rfl⟩ := List.getElem_of_mem hx
        have := hP.nz j (by omega)
        simpa [List.getD_eq_getElem?_getD, hj] using this
      have hdz : ∀ x ∈ Ds, 1 ≤ x := fun x hx => by obtain ⟨j, rfl⟩ := mem_getD hx; exact hP.red.posD j
      have hAS : AS w g w1.heap.size Ns Ds 0 wr := ⟨hP.fr, hP.res, hP.out, hP.bel, hP.rg, hP.go, by simp [pr], by simp [pr]⟩
      have HF := Lib.hid (And.intro hfin (And.intro hnz (And.intro hdz (And.intro l1 l2))))
      clear hfin hnz hdz l1 l2 hP HX hps
      obtain ⟨wo, hwo⟩ : ∃ wo : World, wo = wr := ⟨_, rfl⟩
      subst hwo
      go_wp2
      go_loopw [63] (fun i wr => ∃ k : Nat, k ≤ N.length ∧ i = .int .i64 k ∧ AS w g w1.heap.size Ns Ds k wr) (fun i _ => N.length - (intOf i).toNat)
      case atStart => exact ⟨0, Nat.zero_le _, rfl, hAS⟩
      case round =>
        obtain ⟨k, hk, rfl, hA⟩ := hrel
        by_cases hlt : k < N.length
        · obtain ⟨x, y, p, q, c1, c2, o1, o2, hp1, hp2, hq1, hq2, HY⟩ := hA.open_ (by have := HF.out.2.2.2.1; omega) (by have := HF.out.2.2.2.1; have := HF.out.2.2.2.2; omega) HF.out.2.1 HF.out.2.2.1
          have hz := hA.out.lt
          have hzr := hA.res.lt
          have fo1 := hA.out.fz 0
          have fo2 := hA.out.fz 1
          have b1 : (k : Int) < (N.length : Int) := by omega
          have e1 : 0 ≤ (1000000000 : Int) / (p : Int) := Int.ediv_nonneg (by omega) (by omega)
          have e2 : (1000000000 : Int) / (p : Int) ≤ 1000000000 := Int.ediv_le_self _ (by omega)
          have e3 : 0 ≤ (1000000000 : Int) / (q : Int) := Int.ediv_nonneg (by omega) (by omega)
          have e4 : (1000000000 : Int) / (q : Int) ≤ 1000000000 := Int.ediv_le_self _ (by omega)
          have p0 : ((p : Int) == 0) = false := by simp; omega
          have q0 : ((q : Int) == 0) = false := by simp; omega
          have r1 := hA.res.cell 0
          have r2 := hA.res.cell 1
          have q1 := hA.res.fz 0
          have q2 := hA.res.fz 1
          simp at r1 r2
          have hbel := hA.bel
          have HFL : Hid (∀ W : World, (¬ pr Ns ≤ 1000000000 ∨ ¬ pr Ds ≤ 1000000000) → Below w.heap.size w W → (Ending.returned (Value.tuple #[.agg #[.int .i64 0, .int .i64 0], .int .i64 2]) = .returned (low (pr N) (pr D)).val ∧ Below w.heap.size w W)) := fun W ho hW => by
            refine ⟨?_, hW⟩
            rw [HF.out.1, if_neg (by omega)]
            rfl
          clear hA
          by_cases hg1 : (1000000000 : Int) / (p : Int) < (x : Int)
          · have hd : decide ((1000000000 : Int) / (p : Int) < (x : Int)) = true := by simpa using hg1
            go_wp2
            go_quiet (fail)
            go_wp2
            refine bodyPost_ret (v := Value.tuple #[.agg #[.int .i64 0, .int .i64 0], .int .i64 2]) (by simp [results, Try.results71, go_sem, r1, r2, hzr]) rfl (HFL.out _ (.inl (HY.out.1 (by omega))) ?_)
            exact (((below_drewN (hbel.alloc hbel.size _) nq).setCell (by simp) _).setCell (by simp) _)
          · have hd : decide ((1000000000 : Int) / (p : Int) < (x : Int)) = false := by simpa using hg1
            by_cases hg2 : (1000000000 : Int) / (q : Int) < (y : Int)
            · have hd2 : decide ((1000000000 : Int) / (q : Int) < (y : Int)) = true := by simpa using hg2
              go_wp2
              go_quiet (fail)
              go_wp2
              refine bodyPost_ret (v := Value.tuple #[.agg #[.int .i64 0, .int .i64 0], .int .i64 2]) (by simp [results, Try.results71, go_sem, r1, r2, hzr]) rfl (HFL.out _ (.inr (HY.out.2.1 (by omega))) ?_)
              exact (((below_drewN (hbel.alloc hbel.size _) nq).setCell (by simp) _).setCell (by simp) _)
            · have hd2 : decide ((1000000000 : Int) / (q : Int) < (y : Int)) = false := by simpa using hg2
              have m1 := HY.out.2.2.1 (by omega)
              have m2 := HY.out.2.2.2.1 (by omega)
              have m3 : 0 ≤ (p : Int) * x := Int.mul_nonneg (by omega) (by omega)
              have m4 : 0 ≤ (q : Int) * y := Int.mul_nonneg (by omega) (by omega)
              go_wp2
              go_quiet (fail)
              go_wp2
              go_roundw
              case rel => exact ⟨k + 1, by omega, by go_num, HY.out.2.2.2.2 _ _ _ _ (by omega) (by omega) rfl rfl⟩
              case measure => simp [intOf]; omega
        · have : k = N.length := by omega
          subst this
          have r1 := hA.res.cell 0
          have r2 := hA.res.cell 1
          have q1 := hA.res.fz 0
          have q2 := hA.res.fz 1
          have o1 := hA.out.cell 0
          have o2 := hA.out.cell 1
          simp at r1 r2 o1 o2
          go_wp2
          refine bodyPost_ret (v := Value.tuple #[.agg #[.int .i64 (pr Ns : Nat), .int .i64 (pr Ds : Nat)], .int .i64 0]) ?_ rfl ⟨?_, ?_⟩
          · have e1 := HF.out.2.2.2.1
            have e2 := HF.out.2.2.2.2
            rw [List.take_of_length_le (by omega), List.take_of_length_le (by omega)]
            simp [results, Try.results71, go_sem, r1, r2]
          · have h1 := hA.leN
            have h2 := hA.leD
            rw [List.take_of_length_le (by have := HF.out.2.2.2.1; omega)] at h1
            rw [List.take_of_length_le (by have := HF.out.2.2.2.2; omega)] at h2
            rw [HF.out.1, if_pos ⟨h1, h2⟩]
            rfl
          · exact (hA.bel.setCell (by simp) _).setCell (by simp) _

end Go.Proofs.Ytheifigkclegdaa
