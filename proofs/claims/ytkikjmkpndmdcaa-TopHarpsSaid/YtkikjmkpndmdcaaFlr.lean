/-
  What is proved: floors as data, and the contracts of round, states, number.
-/
import Derived.Test.YtkikjmkpndmdcaaKit
import Derived.Test.YtkikjmkpndmdcaaMix
import Derived.BigRegion
import Derived.Deep.DeepCutAuto
namespace Go.Proofs.Ytkikjmkpndmdcaa
open Go.RowKit
attribute [local go_sem ↓] max_int min_int

/-- A move: out, side, and whether it cuts. -/
structure Mv where
  out : Int
  side : Int
  cut : Bool
def Mv.cells (m : Mv) : List Value := [.int .i64 m.out, .int .i64 m.side, .bool m.cut]
theorem Mv.cells_len (m : Mv) : m.cells.length = 3 := rfl
def mvCells (l : List Mv) : List Value := l.flatMap Mv.cells
/-- A floor. -/
structure Flr where
  eye : Int
  R : Nat
  S : Nat
  bed : List Int
  run : List Int
  drive : List (List Mv)
structure FLoc where
  A1 : Option Addr
  A2 : Option Addr
  A3 : Option Addr
  c1 : Nat
  c2 : Nat
  c3 : Nat
  dr : List (Option Addr × Nat)
def Flr.head (f : Flr) (z : FLoc) : List Value :=
  [.int .i64 f.eye, .int .i64 f.R, .int .i64 f.S, .slice z.A1 f.bed.length z.c1, .int .i64 f.eye, .int .i64 f.R, .int .i64 f.S, .slice z.A2 f.run.length z.c2, .slice z.A3 9 z.c3, .int .i64 f.R, .int .i64 f.S]
def drCell (f : Flr) (z : FLoc) (i : Nat) : Value := .slice (z.dr.getD i (none, 0)).1 (f.drive.getD i []).length (z.dr.getD i (none, 0)).2
def Flr.cells (f : Flr) (z : FLoc) : Array Value := (f.head z ++ (List.range 9).map (drCell f z)).toArray
structure Flr.Ok (f : Flr) : Prop where
  r0 : 1 ≤ f.R
  r1 : f.R ≤ 4
  s0 : 2 ≤ f.S
  s1 : f.S ≤ 8
  bl : f.bed.length = f.R * f.S
  rl : f.run.length = f.R * f.S
  bk : ∀ x ∈ f.bed, 0 ≤ x ∧ x ≤ 2
  rk : ∀ x ∈ f.run, 0 ≤ x ∧ x ≤ 2
  dl : f.drive.length = 9
  dk : ∀ l ∈ f.drive, 1 ≤ l.length ∧ l.length ≤ 3 ∧ ∀ m ∈ l, -1 ≤ m.out ∧ m.out ≤ 1 ∧ -1 ≤ m.side ∧ m.side ≤ 1
/-- A floor in memory. -/
structure FlAt (w : World) (b : Nat) (f : Flr) (z : FLoc) : Prop where
  blk : Bk w b 71 (f.cells z)
  bed : RowAt w z.A1 (intCells f.bed)
  run : RowAt w z.A2 (intCells f.run)
  drv : ∀ i, i < 9 → RowAt w (z.dr.getD i (none, 0)).1 (mvCells (f.drive.getD i []))
theorem FlAt.below {w w' : World} {b : Nat} {f : Flr} {z : FLoc} (h : FlAt w b f z) (hb : Below w.heap.size w w') : FlAt w' b f z :=
  ⟨h.blk.keep hb, h.bed.below hb, h.run.below hb, fun i hi => (h.drv i hi).below hb⟩
theorem FlAt.cS {w : World} {b : Nat} {f : Flr} {z : FLoc} (h : FlAt w b f z) : w.cell? ⟨b, 10, none⟩ = some (.int .i64 f.S) := h.blk.cell 10
theorem FlAt.cR {w : World} {b : Nat} {f : Flr} {z : FLoc} (h : FlAt w b f z) : w.cell? ⟨b, 9, none⟩ = some (.int .i64 f.R) := h.blk.cell 9
theorem FlAt.cB {w : World} {b : Nat} {f : Flr} {z : FLoc} (h : FlAt w b f z) : w.cell? ⟨b, 3, none⟩ = some (.slice z.A1 f.bed.length z.c1) := h.blk.cell 3
theorem FlAt.cN {w : World} {b : Nat} {f : Flr} {z : FLoc} (h : FlAt w b f z) : w.cell? ⟨b, 7, none⟩ = some (.slice z.A2 f.run.length z.c2) := h.blk.cell 7
theorem FlAt.cD {w : World} {b : Nat} {f : Flr} {z : FLoc} (h : FlAt w b f z) {i : Nat} (hi : i < 9) : w.cell? ⟨b, 11 + i, none⟩ = some (.slice (z.dr.getD i (none, 0)).1 (f.drive.getD i []).length (z.dr.getD i (none, 0)).2) := by
  have h1 := h.blk.cell (11 + i)
  rw [h1]
  have : i = 0 ∨ i = 1 ∨ i = 2 ∨ i = 3 ∨ i = 4 ∨ i = 5 ∨ i = 6 ∨ i = 7 ∨ i = 8 := by omega
  rcases this with rfl | rfl | rfl | rfl | rfl | rfl | rfl | rfl | rfl <;> rfl

theorem round_val {n : Int} {S : Nat} (hS : 0 < S) : (n.tmod S + S).tmod S = n % S := by
  have h1 : -(S : Int) < n.tmod S := Int.lt_tmod_of_pos n (by omega)
  rw [Int.tmod_eq_emod_of_nonneg (a := n.tmod S + S) (by omega), Int.add_emod_right]
  exact Int.emod_eq_emod_iff_emod_sub_eq_zero.2 (by
    have e := Int.mul_tdiv_add_tmod n S
    have e2 : n.tmod S - n = -(S * n.tdiv S) := by omega
    rw [e2]
    exact Int.emod_eq_zero_of_dvd ⟨-(n.tdiv S), by rw [Int.mul_neg]⟩)

set_option maxRecDepth 100000 in
set_option maxHeartbeats 2000000 in
theorem round_any (b S : Nat) (n : Int) (w : World) (h0 : 2 ≤ S) (h1 : S ≤ 8) (x0 : w.cell? ⟨b, 10, none⟩ = some (.int .i64 S)) (hn : -1000 ≤ n ∧ n ≤ 1000) :
    Calls Try.prog 22 #[.pointer (some ⟨b, 0, none⟩), .int .i64 n] w fun e w' => e = .returned (.int .i64 (n % S)) ∧ Below w.heap.size w w' := by
  have hv := round_val (n := n) (S := S) (by omega)
  have hS0 : S ≠ 0 := by omega
  have hsz : ((S : Int) == 0) = false := by simp; omega
  have hm1 : -(S : Int) < n.tmod S := Int.lt_tmod_of_pos n (by omega)
  have hm2 : n.tmod S < S := Int.tmod_lt_of_pos n (by omega)
  have hw1 := IntWalk.i64_in (n.tmod S) (by omega)
  have hw2 := IntWalk.i64_in (n.tmod S + S) (by omega)
  have hm3 : 0 ≤ n % S ∧ n % S < S := ⟨Int.emod_nonneg _ (by omega), Int.emod_lt_of_pos _ (by omega)⟩
  have hw3 := IntWalk.i64_in (n % S) (by omega)
  have HB := Below.refl w.heap.size w
  go_enter Try.func22, Try.ntmps22
  go_upto_region 1 with fail
  go_quiet (fail)
  go_wp2_with fail
  go_ret
  exact ⟨rfl, below_drewN HB _⟩

theorem mul_bound {a b m n : Int} (h0 : 0 ≤ a) (h1 : a ≤ m) (h2 : 0 ≤ b) (h3 : b ≤ n) : 0 ≤ a * b ∧ a * b ≤ m * n :=
  ⟨Int.mul_nonneg h0 h2, Int.mul_le_mul h1 h3 h2 (by omega)⟩

set_option maxRecDepth 100000 in
set_option maxHeartbeats 2000000 in
theorem states_any (b : Nat) (f : Flr) (z : FLoc) (w : World) (hf : FlAt w b f z) (hok : f.Ok) :
    Calls Try.prog 40 #[.pointer (some ⟨b, 0, none⟩)] w fun e w' => e = .returned (.int .i64 ((f.R * f.S * f.S : Nat) : Int)) ∧ Below w.heap.size w w' := by
  have x0 := hf.cS
  have x1 := hf.cR
  obtain ⟨r0, r1, s0, s1, _, _, _, _, _, _⟩ := hok
  have HE : Hid (((f.R * f.S * f.S : Nat) : Int) = (f.R : Int) * f.S * f.S) := by simp [Hid]
  clear hf
  generalize f.R = R at *
  generalize f.S = S at *
  have hb1 := mul_bound (a := R) (b := S) (m := 4) (n := 8) (by omega) (by omega) (by omega) (by omega)
  have hb2 := mul_bound (a := (R : Int) * S) (b := S) (m := 32) (n := 8) (by omega) (by omega) (by omega) (by omega)
  have hw1 := IntWalk.i64_in ((R : Int) * S) (by omega)
  have hw2 := IntWalk.i64_in ((R : Int) * S * S) (by omega)
  have HB := Below.refl w.heap.size w
  clear hb1 hb2
  go_enter Try.func40, Try.ntmps40
  go_upto_region 1 with fail
  go_quiet (fail)
  go_wp2_with fail
  go_ret
  exact ⟨by first | (rw [HE.out]; done) | (rw [HE.out]; rfl), below_drewN HB _⟩

def numN (R S ring sec turn : Nat) : Nat := (turn * R + ring) * S + sec
def stV (ring sec turn : Nat) : Value := .agg #[.int .i64 ring, .int .i64 sec, .int .i64 turn]

set_option maxRecDepth 100000 in
set_option maxHeartbeats 2000000 in
theorem number_any (b : Nat) (f : Flr) (z : FLoc) (ring sec turn : Nat) (w : World) (hf : FlAt w b f z) (hok : f.Ok) (h1 : ring < f.R) (h2 : sec < f.S) (h3 : turn < f.S) :
    Calls Try.prog 68 #[.pointer (some ⟨b, 0, none⟩), stV ring sec turn] w fun e w' => e = .returned (.int .i64 (numN f.R f.S ring sec turn)) ∧ Below w.heap.size w w' := by
  obtain ⟨r0, r1, s0, s1, _, _, _, _, _, _⟩ := hok
  have HE : Hid ((numN f.R f.S ring sec turn : Int) = ((turn : Int) * f.R + ring) * f.S + sec) := by simp [Hid, numN]
  obtain ⟨W, hW⟩ : ∃ W, w.alloc (.cells #[.int .i64 ring, .int .i64 sec, .int .i64 turn] 40) = W := ⟨_, rfl⟩
  have hbW : Below w.heap.size w W := by rw [← hW]; exact (Below.refl _ _).alloc (Nat.le_refl _) _
  have Y : Bk W w.heap.size 40 #[.int .i64 ring, .int .i64 sec, .int .i64 turn] := by rw [← hW]; exact bk_last rfl
  have x0 := (hf.below hbW).cS
  have x1 := (hf.below hbW).cR
  have y0 := Y.cell 0
  have y1 := Y.cell 1
  have y2 := Y.cell 2
  simp at y0 y1 y2
  have HW := Lib.hid hW
  clear hf hW Y
  generalize f.R = R at *
  generalize f.S = S at *
  have hb1 := mul_bound (a := turn) (b := R) (m := 8) (n := 4) (by omega) (by omega) (by omega) (by omega)
  have hb2 := mul_bound (a := (turn : Int) * R + ring) (b := S) (m := 36) (n := 8) (by omega) (by omega) (by omega) (by omega)
  have hw1 := IntWalk.i64_in ((turn : Int) * R) (by omega)
  have hw2 := IntWalk.i64_in ((turn : Int) * R + ring) (by omega)
  have hw3 := IntWalk.i64_in (((turn : Int) * R + ring) * S) (by omega)
  have hw4 := IntWalk.i64_in (((turn : Int) * R + ring) * S + sec) (by omega)
  clear hb1 hb2
  unfold stV
  go_enter Try.func68, Try.ntmps68
  go_upto_region 1 with fail
  rw [HW.out]
  clear HW
  go_quiet (fail)
  go_wp2_with fail
  go_ret
  exact ⟨by first | (rw [HE.out]; done) | (rw [HE.out]; rfl), below_drewN hbW _⟩

def ringN (R S i : Nat) : Nat := i / S % R
def secN (S i : Nat) : Nat := i % S
def turnN (R S i : Nat) : Nat := i / (S * R)

set_option maxRecDepth 100000 in
set_option maxHeartbeats 4000000 in
theorem state_any (b : Nat) (f : Flr) (z : FLoc) (i : Nat) (w : World) (hf : FlAt w b f z) (hok : f.Ok) (hi : i < 1000) :
    Calls Try.prog 41 #[.pointer (some ⟨b, 0, none⟩), .int .i64 i] w fun e w' => e = .returned (stV (ringN f.R f.S i) (secN f.S i) (turnN f.R f.S i)) ∧ Below w.heap.size w w' := by
  obtain ⟨r0, r1, s0, s1, _, _, _, _, _, _⟩ := hok
  have x0 := hf.cS
  have x1 := hf.cR
  clear hf
  generalize f.R = R at *
  generalize f.S = S at *
  have HE : Hid (stV (ringN R S i) (secN S i) (turnN R S i) = .agg #[.int .i64 ((i : Int) / S % R), .int .i64 ((i : Int) % S), .int .i64 ((i : Int) / ((S : Int) * R))]) := by
    simp [Hid, stV, ringN, secN, turnN]
  have hR0 : R ≠ 0 := by omega
  have hS0 : S ≠ 0 := by omega
  have hb1 := mul_bound (a := S) (b := R) (m := 8) (n := 4) (by omega) (by omega) (by omega) (by omega)
  have hp1 : 0 < (S : Int) * R := Int.mul_pos (by omega) (by omega)
  have e1 : (i : Int).tdiv S = i / S := Int.tdiv_eq_ediv_of_nonneg (by omega)
  have e2 : (i : Int).tmod S = i % S := Int.tmod_eq_emod_of_nonneg (by omega)
  have e3 : (i : Int).tdiv ((S : Int) * R) = i / ((S : Int) * R) := Int.tdiv_eq_ediv_of_nonneg (by omega)
  have d1 : 0 ≤ (i : Int) / S := Int.ediv_nonneg (by omega) (by omega)
  have d2 : (i : Int) / S ≤ i := Int.ediv_le_self _ (by omega)
  have e4 : ((i : Int) / S).tmod R = i / S % R := Int.tmod_eq_emod_of_nonneg d1
  have m1 : 0 ≤ (i : Int) / S % R ∧ (i : Int) / S % R < R := ⟨Int.emod_nonneg _ (by omega), Int.emod_lt_of_pos _ (by omega)⟩
  have m2 : 0 ≤ (i : Int) % S ∧ (i : Int) % S < S := ⟨Int.emod_nonneg _ (by omega), Int.emod_lt_of_pos _ (by omega)⟩
  have d3 : 0 ≤ (i : Int) / ((S : Int) * R) := Int.ediv_nonneg (by omega) (by omega)
  have d4 : (i : Int) / ((S : Int) * R) ≤ i := Int.ediv_le_self _ (by omega)
  have hw1 := IntWalk.i64_in ((S : Int) * R) (by omega)
  have hw2 := IntWalk.i64_in ((i : Int) / S) (by omega)
  have hw3 := IntWalk.i64_in ((i : Int) / ((S : Int) * R)) (by omega)
  have hz : ((S : Int) * R == 0) = false := by simp; omega
  have hz1 : ((S : Int) == 0) = false := by simp; omega
  have hz2 : ((R : Int) == 0) = false := by simp; omega
  have A0 : Bk (w.alloc (.cells #[.int .i64 0, .int .i64 0, .int .i64 0] 40)) w.heap.size 40 #[.int .i64 0, .int .i64 0, .int .i64 0] := bk_last rfl
  have hbW : Below w.heap.size w (w.alloc (.cells #[.int .i64 0, .int .i64 0, .int .i64 0] 40)) := (Below.refl _ _).alloc (Nat.le_refl _) _
  replace x0 : (w.alloc (.cells #[.int .i64 0, .int .i64 0, .int .i64 0] 40)).cell? ⟨b, 10, none⟩ = some (.int .i64 S) := keepc hbW x0
  replace x1 : (w.alloc (.cells #[.int .i64 0, .int .i64 0, .int .i64 0] 40)).cell? ⟨b, 9, none⟩ = some (.int .i64 R) := keepc hbW x1
  go_enter Try.func41, Try.ntmps41
  go_upto_region 1 with fail
  generalize w.alloc (.cells #[.int .i64 0, .int .i64 0, .int .i64 0] 40) = W at *
  replace x0 := fun x : Ext W => keepc x.bel x0
  replace x1 := fun x : Ext W => keepc x.bel x1
  refine wp_region_extmix 29 (by kernel_rfl) (by kernel_rfl) (fun _ _ d _ _ h => by cases d <;> exact h) ?_
  simp only [List.take_succ_cons, List.take_zero, List.drop_succ_cons, List.drop_zero]
  repeat (go_big_quiet_step (fail))
  refine wpQuiet_nil ?_
  rintro _ ⟨y, rfl⟩
  clear x0 x1
  have hb2 := y.bel
  generalize y.w = w2 at hb2 ⊢
  have A2 := A0.keep hb2
  have a0 := A2.cell 0
  have a1 := A2.cell 1
  have a2 := A2.cell 2
  have f0 := A2.fz 0
  have f1 := A2.fz 1
  have f2 := A2.fz 2
  have al := A2.lt
  simp at a0 a1 a2
  have hB := hbW.trans (hb2.mono hbW.size)
  go_wp2_with fail
  refine bodyPost_ret (v := .agg #[.int .i64 ((i : Int) / S % R), .int .i64 ((i : Int) % S), .int .i64 ((i : Int) / ((S : Int) * R))]) (by simp [results, Try.results41, go_sem, a0, a1, a2, al]) rfl ?_
  refine ⟨by rw [HE.out], ?_⟩
  exact ((hB.setCell (p := ⟨w.heap.size, 0, none⟩) (Nat.le_refl _) _).setCell (p := ⟨w.heap.size, 1, none⟩) (Nat.le_refl _) _).setCell (p := ⟨w.heap.size, 2, none⟩) (Nat.le_refl _) _

end Go.Proofs.Ytkikjmkpndmdcaa
