/-
  What is proved: floors as data, and the contracts of round, states, number.
  What is proved: contracts of the small functions of history: in, spans, done, nameOf, rightName, frame.valid.
  What is proved: the contracts of over, moves and next.
-/
import Derived.Test.YteihcodicfoiaaaGreatMw1
import Derived.Test.YteihcodicfoiaaaGreatMix
import Derived.BigRegion
import Derived.Deep.DeepCutAuto
namespace Go.Proofs.YteihcodicfoiaaaGreat
open Go.RowKit
attribute [local go_sem ↓] max_int min_int

/-- A move: out, side, and whether it cuts. -/
structure Mv where
  out : Int
  side : Int
  cut : Bool
def Mv.cells (m : Mv) : List Value := [.int .i64 m.out, .int .i64 m.side, .bool m.cut]
theorem Mv.cells_len (m : Mv) : m.cells.length = 3 := rfl
def mvCells (l : List Mv) : List Value := l.flatMap Mv.cells
/-- A floor. -/
structure Flr where
  eye : Int
  R : Nat
  S : Nat
  bed : List Int
  run : List Int
  drive : List (List Mv)
structure FLoc where
  A1 : Option Addr
  A2 : Option Addr
  A3 : Option Addr
  c1 : Nat
  c2 : Nat
  c3 : Nat
  dr : List (Option Addr × Nat)
def Flr.head (f : Flr) (z : FLoc) : List Value :=
  [.int .i64 f.eye, .int .i64 f.R, .int .i64 f.S, .slice z.A1 f.bed.length z.c1, .int .i64 f.eye, .int .i64 f.R, .int .i64 f.S, .slice z.A2 f.run.length z.c2, .slice z.A3 9 z.c3, .int .i64 f.R, .int .i64 f.S]
def drCell (f : Flr) (z : FLoc) (i : Nat) : Value := .slice (z.dr.getD i (none, 0)).1 (f.drive.getD i []).length (z.dr.getD i (none, 0)).2
def Flr.cells (f : Flr) (z : FLoc) : Array Value := (f.head z ++ (List.range 9).map (drCell f z)).toArray
structure Flr.Ok (f : Flr) : Prop where
  r0 : 1 ≤ f.R
  r1 : f.R ≤ 4
  s0 : 2 ≤ f.S
  s1 : f.S ≤ 8
  bl : f.bed.length = f.R * f.S
  rl : f.run.length = f.R * f.S
  bk : ∀ x ∈ f.bed, 0 ≤ x ∧ x ≤ 2
  rk : ∀ x ∈ f.run, 0 ≤ x ∧ x ≤ 2
  dl : f.drive.length = 9
  dk : ∀ l ∈ f.drive, 1 ≤ l.length ∧ l.length ≤ 3 ∧ ∀ m ∈ l, -1 ≤ m.out ∧ m.out ≤ 1 ∧ -1 ≤ m.side ∧ m.side ≤ 1
/-- A floor in memory. -/
structure FlAt (w : World) (b : Nat) (f : Flr) (z : FLoc) : Prop where
  blk : Bk w b 181 (f.cells z)
  bed : RowAt w z.A1 (intCells f.bed)
  run : RowAt w z.A2 (intCells f.run)
  drv : ∀ i, i < 9 → RowAt w (z.dr.getD i (none, 0)).1 (mvCells (f.drive.getD i []))
theorem FlAt.below {w w' : World} {b : Nat} {f : Flr} {z : FLoc} (h : FlAt w b f z) (hb : Below w.heap.size w w') : FlAt w' b f z :=
  ⟨h.blk.keep hb, h.bed.below hb, h.run.below hb, fun i hi => (h.drv i hi).below hb⟩
theorem FlAt.cS {w : World} {b : Nat} {f : Flr} {z : FLoc} (h : FlAt w b f z) : w.cell? ⟨b, 10, none⟩ = some (.int .i64 f.S) := h.blk.cell 10
theorem FlAt.cR {w : World} {b : Nat} {f : Flr} {z : FLoc} (h : FlAt w b f z) : w.cell? ⟨b, 9, none⟩ = some (.int .i64 f.R) := h.blk.cell 9
theorem FlAt.cB {w : World} {b : Nat} {f : Flr} {z : FLoc} (h : FlAt w b f z) : w.cell? ⟨b, 3, none⟩ = some (.slice z.A1 f.bed.length z.c1) := h.blk.cell 3
theorem FlAt.cN {w : World} {b : Nat} {f : Flr} {z : FLoc} (h : FlAt w b f z) : w.cell? ⟨b, 7, none⟩ = some (.slice z.A2 f.run.length z.c2) := h.blk.cell 7
theorem FlAt.cD {w : World} {b : Nat} {f : Flr} {z : FLoc} (h : FlAt w b f z) {i : Nat} (hi : i < 9) : w.cell? ⟨b, 11 + i, none⟩ = some (.slice (z.dr.getD i (none, 0)).1 (f.drive.getD i []).length (z.dr.getD i (none, 0)).2) := by
  have h1 := h.blk.cell (11 + i)
  rw [h1]
  have : i = 0 ∨ i = 1 ∨ i = 2 ∨ i = 3 ∨ i = 4 ∨ i = 5 ∨ i = 6 ∨ i = 7 ∨ i = 8 := by omega
  rcases this with rfl | rfl | rfl | rfl | rfl | rfl | rfl | rfl | rfl <;> rfl

theorem round_val {n : Int} {S : Nat} (hS : 0 < S) : (n.tmod S + S).tmod S = n % S := by
  have h1 : -(S : Int) < n.tmod S := Int.lt_tmod_of_pos n (by omega)
  rw [Int.tmod_eq_emod_of_nonneg (a := n.tmod S + S) (by omega), Int.add_emod_right]
  exact Int.emod_eq_emod_iff_emod_sub_eq_zero.2 (by
    have e := Int.mul_tdiv_add_tmod n S
    have e2 : n.tmod S - n = -(S * n.tdiv S) := by omega
    rw [e2]
    exact Int.emod_eq_zero_of_dvd ⟨-(n.tdiv S), by rw [Int.mul_neg]⟩)

set_option maxRecDepth 100000 in
set_option maxHeartbeats 2000000 in
theorem round_any (b S : Nat) (n : Int) (w : World) (h0 : 2 ≤ S) (h1 : S ≤ 8) (x0 : w.cell? ⟨b, 10, none⟩ = some (.int .i64 S)) (hn : -1000 ≤ n ∧ n ≤ 1000) :
    Calls Tryz.prog 81 #[.pointer (some ⟨b, 0, none⟩), .int .i64 n] w fun e w' => e = .returned (.int .i64 (n % S)) ∧ Below w.heap.size w w' := by
  have hv := round_val (n := n) (S := S) (by omega)
  have hS0 : S ≠ 0 := by omega
  have hsz : ((S : Int) == 0) = false := by simp; omega
  have hm1 : -(S : Int) < n.tmod S := Int.lt_tmod_of_pos n (by omega)
  have hm2 : n.tmod S < S := Int.tmod_lt_of_pos n (by omega)
  have hw1 := IntWalk.i64_in (n.tmod S) (by omega)
  have hw2 := IntWalk.i64_in (n.tmod S + S) (by omega)
  have hm3 : 0 ≤ n % S ∧ n % S < S := ⟨Int.emod_nonneg _ (by omega), Int.emod_lt_of_pos _ (by omega)⟩
  have hw3 := IntWalk.i64_in (n % S) (by omega)
  have HB := Below.refl w.heap.size w
  go_enter Tryz.func81, Tryz.ntmps81
  go_upto_region 1 with fail
  go_quiet (fail)
  go_wp2_with fail
  go_ret
  exact ⟨rfl, below_drewN HB _⟩

theorem mul_bound {a b m n : Int} (h0 : 0 ≤ a) (h1 : a ≤ m) (h2 : 0 ≤ b) (h3 : b ≤ n) : 0 ≤ a * b ∧ a * b ≤ m * n :=
  ⟨Int.mul_nonneg h0 h2, Int.mul_le_mul h1 h3 h2 (by omega)⟩

set_option maxRecDepth 100000 in
set_option maxHeartbeats 2000000 in
theorem states_any (b : Nat) (f : Flr) (z : FLoc) (w : World) (hf : FlAt w b f z) (hok : f.Ok) :
    Calls Tryz.prog 122 #[.pointer (some ⟨b, 0, none⟩)] w fun e w' => e = .returned (.int .i64 ((f.R * f.S * f.S : Nat) : Int)) ∧ Below w.heap.size w w' := by
  have x0 := hf.cS
  have x1 := hf.cR
  obtain ⟨r0, r1, s0, s1, _, _, _, _, _, _⟩ := hok
  have HE : Hid (((f.R * f.S * f.S : Nat) : Int) = (f.R : Int) * f.S * f.S) := by simp [Hid]
  clear hf
  generalize f.R = R at *
  generalize f.S = S at *
  have hb1 := mul_bound (a := R) (b := S) (m := 4) (n := 8) (by omega) (by omega) (by omega) (by omega)
  have hb2 := mul_bound (a := (R : Int) * S) (b := S) (m := 32) (n := 8) (by omega) (by omega) (by omega) (by omega)
  have hw1 := IntWalk.i64_in ((R : Int) * S) (by omega)
  have hw2 := IntWalk.i64_in ((R : Int) * S * S) (by omega)
  have HB := Below.refl w.heap.size w
  clear hb1 hb2
  go_enter Tryz.func122, Tryz.ntmps122
  go_upto_region 1 with fail
  go_quiet (fail)
  go_wp2_with fail
  go_ret
  exact ⟨by first | (rw [HE.out]; done) | (rw [HE.out]; rfl), below_drewN HB _⟩

def numN (R S ring sec turn : Nat) : Nat := (turn * R + ring) * S + sec
def stV (ring sec turn : Nat) : Value := .agg #[.int .i64 ring, .int .i64 sec, .int .i64 turn]

set_option maxRecDepth 100000 in
set_option maxHeartbeats 2000000 in
theorem number_any (b : Nat) (f : Flr) (z : FLoc) (ring sec turn : Nat) (w : World) (hf : FlAt w b f z) (hok : f.Ok) (h1 : ring < f.R) (h2 : sec < f.S) (h3 : turn < f.S) :
    Calls Tryz.prog 152 #[.pointer (some ⟨b, 0, none⟩), stV ring sec turn] w fun e w' => e = .returned (.int .i64 (numN f.R f.S ring sec turn)) ∧ Below w.heap.size w w' := by
  obtain ⟨r0, r1, s0, s1, _, _, _, _, _, _⟩ := hok
  have HE : Hid ((numN f.R f.S ring sec turn : Int) = ((turn : Int) * f.R + ring) * f.S + sec) := by simp [Hid, numN]
  obtain ⟨W, hW⟩ : ∃ W, w.alloc (.cells #[.int .i64 ring, .int .i64 sec, .int .i64 turn] 178) = W := ⟨_, rfl⟩
  have hbW : Below w.heap.size w W := by rw [← hW]; exact (Below.refl _ _).alloc (Nat.le_refl _) _
  have Y : Bk W w.heap.size 178 #[.int .i64 ring, .int .i64 sec, .int .i64 turn] := by rw [← hW]; exact bk_last rfl
  have x0 := (hf.below hbW).cS
  have x1 := (hf.below hbW).cR
  have y0 := Y.cell 0
  have y1 := Y.cell 1
  have y2 := Y.cell 2
  simp at y0 y1 y2
  have HW := Lib.hid hW
  clear hf hW Y
  generalize f.R = R at *
  generalize f.S = S at *
  have hb1 := mul_bound (a := turn) (b := R) (m := 8) (n := 4) (by omega) (by omega) (by omega) (by omega)
  have hb2 := mul_bound (a := (turn : Int) * R + ring) (b := S) (m := 36) (n := 8) (by omega) (by omega) (by omega) (by omega)
  have hw1 := IntWalk.i64_in ((turn : Int) * R) (by omega)
  have hw2 := IntWalk.i64_in ((turn : Int) * R + ring) (by omega)
  have hw3 := IntWalk.i64_in (((turn : Int) * R + ring) * S) (by omega)
  have hw4 := IntWalk.i64_in (((turn : Int) * R + ring) * S + sec) (by omega)
  clear hb1 hb2
  unfold stV
  go_enter Tryz.func152, Tryz.ntmps152
  go_upto_region 1 with fail
  rw [HW.out]
  clear HW
  go_quiet (fail)
  go_wp2_with fail
  go_ret
  exact ⟨by first | (rw [HE.out]; done) | (rw [HE.out]; rfl), below_drewN hbW _⟩

def ringN (R S i : Nat) : Nat := i / S % R
def secN (S i : Nat) : Nat := i % S
def turnN (R S i : Nat) : Nat := i / (S * R)

set_option maxRecDepth 100000 in
set_option maxHeartbeats 4000000 in
theorem state_any (b : Nat) (f : Flr) (z : FLoc) (i : Nat) (w : World) (hf : FlAt w b f z) (hok : f.Ok) (hi : i < 1000) :
    Calls Tryz.prog 123 #[.pointer (some ⟨b, 0, none⟩), .int .i64 i] w fun e w' => e = .returned (stV (ringN f.R f.S i) (secN f.S i) (turnN f.R f.S i)) ∧ Below w.heap.size w w' := by
  obtain ⟨r0, r1, s0, s1, _, _, _, _, _, _⟩ := hok
  have x0 := hf.cS
  have x1 := hf.cR
  clear hf
  generalize f.R = R at *
  generalize f.S = S at *
  have HE : Hid (stV (ringN R S i) (secN S i) (turnN R S i) = .agg #[.int .i64 ((i : Int) / S % R), .int .i64 ((i : Int) % S), .int .i64 ((i : Int) / ((S : Int) * R))]) := by
    simp [Hid, stV, ringN, secN, turnN]
  have hR0 : R ≠ 0 := by omega
  have hS0 : S ≠ 0 := by omega
  have hb1 := mul_bound (a := S) (b := R) (m := 8) (n := 4) (by omega) (by omega) (by omega) (by omega)
  have hp1 : 0 < (S : Int) * R := Int.mul_pos (by omega) (by omega)
  have e1 : (i : Int).tdiv S = i / S := Int.tdiv_eq_ediv_of_nonneg (by omega)
  have e2 : (i : Int).tmod S = i % S := Int.tmod_eq_emod_of_nonneg (by omega)
  have e3 : (i : Int).tdiv ((S : Int) * R) = i / ((S : Int) * R) := Int.tdiv_eq_ediv_of_nonneg (by omega)
  have d1 : 0 ≤ (i : Int) / S := Int.ediv_nonneg (by omega) (by omega)
  have d2 : (i : Int) / S ≤ i := Int.ediv_le_self _ (by omega)
  have e4 : ((i : Int) / S).tmod R = i / S % R := Int.tmod_eq_emod_of_nonneg d1
  have m1 : 0 ≤ (i : Int) / S % R ∧ (i : Int) / S % R < R := ⟨Int.emod_nonneg _ (by omega), Int.emod_lt_of_pos _ (by omega)⟩
  have m2 : 0 ≤ (i : Int) % S ∧ (i : Int) % S < S := ⟨Int.emod_nonneg _ (by omega), Int.emod_lt_of_pos _ (by omega)⟩
  have d3 : 0 ≤ (i : Int) / ((S : Int) * R) := Int.ediv_nonneg (by omega) (by omega)
  have d4 : (i : Int) / ((S : Int) * R) ≤ i := Int.ediv_le_self _ (by omega)
  have hw1 := IntWalk.i64_in ((S : Int) * R) (by omega)
  have hw2 := IntWalk.i64_in ((i : Int) / S) (by omega)
  have hw3 := IntWalk.i64_in ((i : Int) / ((S : Int) * R)) (by omega)
  have hz : ((S : Int) * R == 0) = false := by simp; omega
  have hz1 : ((S : Int) == 0) = false := by simp; omega
  have hz2 : ((R : Int) == 0) = false := by simp; omega
  have A0 : Bk (w.alloc (.cells #[.int .i64 0, .int .i64 0, .int .i64 0] 178)) w.heap.size 178 #[.int .i64 0, .int .i64 0, .int .i64 0] := bk_last rfl
  have hbW : Below w.heap.size w (w.alloc (.cells #[.int .i64 0, .int .i64 0, .int .i64 0] 178)) := (Below.refl _ _).alloc (Nat.le_refl _) _
  replace x0 : (w.alloc (.cells #[.int .i64 0, .int .i64 0, .int .i64 0] 178)).cell? ⟨b, 10, none⟩ = some (.int .i64 S) := keepc hbW x0
  replace x1 : (w.alloc (.cells #[.int .i64 0, .int .i64 0, .int .i64 0] 178)).cell? ⟨b, 9, none⟩ = some (.int .i64 R) := keepc hbW x1
  go_enter Tryz.func123, Tryz.ntmps123
  go_upto_region 1 with fail
  generalize w.alloc (.cells #[.int .i64 0, .int .i64 0, .int .i64 0] 178) = W at *
  replace x0 := fun x : Ext W => keepc x.bel x0
  replace x1 := fun x : Ext W => keepc x.bel x1
  refine wp_region_extmix 29 (by kernel_rfl) (by kernel_rfl) (fun _ _ d _ _ h => by cases d <;> exact h) ?_
  simp only [List.take_succ_cons, List.take_zero, List.drop_succ_cons, List.drop_zero]
  repeat (go_big_quiet_step (fail))
  refine wpQuiet_nil ?_
  rintro _ ⟨y, rfl⟩
  clear x0 x1
  have hb2 := y.bel
  generalize y.w = w2 at hb2 ⊢
  have A2 := A0.keep hb2
  have a0 := A2.cell 0
  have a1 := A2.cell 1
  have a2 := A2.cell 2
  have f0 := A2.fz 0
  have f1 := A2.fz 1
  have f2 := A2.fz 2
  have al := A2.lt
  simp at a0 a1 a2
  have hB := hbW.trans (hb2.mono hbW.size)
  go_wp2_with fail
  refine bodyPost_ret (v := .agg #[.int .i64 ((i : Int) / S % R), .int .i64 ((i : Int) % S), .int .i64 ((i : Int) / ((S : Int) * R))]) (by simp [results, Tryz.results123, go_sem, a0, a1, a2, al]) rfl ?_
  refine ⟨by rw [HE.out], ?_⟩
  exact ((hB.setCell (p := ⟨w.heap.size, 0, none⟩) (Nat.le_refl _) _).setCell (p := ⟨w.heap.size, 1, none⟩) (Nat.le_refl _) _).setCell (p := ⟨w.heap.size, 2, none⟩) (Nat.le_refl _) _

end Go.Proofs.YteihcodicfoiaaaGreat
namespace Go.Proofs.YteihcodicfoiaaaGreat
open Go.RowKit

/-- A note. -/
structure NoteD where
  house : Int
  num : Int
  clock : Int
  day : Int
  kind : Int
  stone : Int
  heap : Int
  turns : Int
  hlo : Int
  hhi : Int
  dlo : Int
  dhi : Int
  a : Int
  b : Int
  ring : Int
  strokes : List Int
  sA : Option Addr
  sc : Nat
  rh : Int
  rn : Int
  fix : Int
def NoteD.arr (n : NoteD) : Array Value :=
  #[.int .i64 n.house, .int .i64 n.num, .int .i64 n.clock, .int .i64 n.day, .int .i64 n.kind, .int .i64 n.stone, .int .i64 n.heap, .int .i64 n.turns, .int .i64 n.hlo, .int .i64 n.hhi, .int .i64 n.dlo, .int .i64 n.dhi, .int .i64 n.a, .int .i64 n.b, .int .i64 n.ring,
    .slice n.sA n.strokes.length n.sc, .int .i64 n.rh, .int .i64 n.rn, .int .i64 n.fix]
/-- A note in memory. -/
def NoteD.At (n : NoteD) (w : World) : Prop := RowAt w n.sA (intCells n.strokes)
theorem NoteD.At.below {n : NoteD} {w w' : World} (h : n.At w) (hb : Below w.heap.size w w') : n.At w' := RowAt.below h hb

set_option maxHeartbeats 1000000 in
theorem hin_any (n lo hi : Int) (w : World) :
    Calls Tryz.prog 36 #[.int .i64 n, .int .i64 lo, .int .i64 hi] w fun e w' => e = .returned (.bool (inB n lo hi)) ∧ w = w' := by
  by_cases h1 : n ≥ lo
  · by_cases h2 : n ≤ hi
    · go_enter Tryz.func36, Tryz.ntmps36
      go_wp2_with fail
      go_ret
      exact ⟨ret_bool (by simp [inB]; omega), rfl⟩
    · go_enter Tryz.func36, Tryz.ntmps36
      go_wp2_with fail
      go_ret
      exact ⟨ret_bool (by simp [inB]; omega), rfl⟩
  · go_enter Tryz.func36, Tryz.ntmps36
    go_wp2_with fail
    go_ret
    exact ⟨ret_bool (by simp [inB]; omega), rfl⟩

def spansB (l h lo hi : Int) : Bool := decide (lo ≤ l ∧ l ≤ h ∧ h ≤ hi)
set_option maxHeartbeats 1000000 in
theorem hspans_any (l h lo hi : Int) (w : World) :
    Calls Tryz.prog 65 #[.agg #[.int .i64 l, .int .i64 h], .int .i64 lo, .int .i64 hi] w fun e w' => e = .returned (.bool (spansB l h lo hi)) ∧ Below w.heap.size w w' := by
  obtain ⟨W, hW⟩ : ∃ W, w.alloc (.cells #[.int .i64 l, .int .i64 h] 29) = W := ⟨_, rfl⟩
  have hbW : Below w.heap.size w W := by rw [← hW]; exact (Below.refl _ _).alloc (Nat.le_refl _) _
  have X := (show Bk W w.heap.size 29 #[.int .i64 l, .int .i64 h] by rw [← hW]; exact bk_last rfl)
  have x0 := X.cell 0
  have x1 := X.cell 1
  simp at x0 x1
  have HW := Lib.hid hW
  clear hW X
  by_cases h1 : l ≥ lo
  · by_cases h2 : l ≤ h
    · by_cases h3 : h ≤ hi
      all_goals
        go_enter Tryz.func65, Tryz.ntmps65
        go_upto_region 1 with fail
        rw [HW.out]
        clear HW
        go_wp2_with fail
        go_ret
        exact ⟨ret_bool (by simp [spansB]; omega), hbW⟩
    · go_enter Tryz.func65, Tryz.ntmps65
      go_upto_region 1 with fail
      rw [HW.out]
      clear HW
      go_wp2_with fail
      go_ret
      exact ⟨ret_bool (by simp [spansB]; omega), hbW⟩
  · go_enter Tryz.func65, Tryz.ntmps65
    go_upto_region 1 with fail
    rw [HW.out]
    clear HW
    go_wp2_with fail
    go_ret
    exact ⟨ret_bool (by simp [spansB]; omega), hbW⟩

set_option maxRecDepth 100000 in
set_option maxHeartbeats 1000000 in
theorem done_any (n : NoteD) (w : World) :
    Calls Tryz.prog 71 #[.agg n.arr] w fun e w' => e = .returned (.bool (inB n.kind 1 4)) ∧ Below w.heap.size w w' := by
  obtain ⟨W, hW⟩ : ∃ W, w.alloc (.cells n.arr 68) = W := ⟨_, rfl⟩
  have hbW : Below w.heap.size w W := by rw [← hW]; exact (Below.refl _ _).alloc (Nat.le_refl _) _
  have X := (show Bk W w.heap.size 68 n.arr by rw [← hW]; exact bk_last rfl)
  unfold NoteD.arr at *
  have x4 := X.cell 4
  simp at x4
  have HW := Lib.hid hW
  clear hW X
  go_enter Tryz.func71, Tryz.ntmps71
  go_upto_region 1 with fail
  rw [HW.out]
  clear HW
  go_wp2_with (go_at_call 36; refine (hin_any _ _ _ _).mono ?_; rintro e w1 ⟨rfl, rfl⟩)
  go_ret
  exact ⟨rfl, hbW⟩

set_option maxRecDepth 100000 in
set_option maxHeartbeats 1000000 in
theorem rightName_any (h n : Int) (w : World) :
    Calls Tryz.prog 116 #[.agg #[.int .i64 h, .int .i64 n]] w fun e w' => e = .returned (.bool (inB h 1 8 && inB n 1 400)) ∧ Below w.heap.size w w' := by
  obtain ⟨W, hW⟩ : ∃ W, w.alloc (.cells #[.int .i64 h, .int .i64 n] 66) = W := ⟨_, rfl⟩
  have hbW : Below w.heap.size w W := by rw [← hW]; exact (Below.refl _ _).alloc (Nat.le_refl _) _
  have X := (show Bk W w.heap.size 66 #[.int .i64 h, .int .i64 n] by rw [← hW]; exact bk_last rfl)
  have x0 := X.cell 0
  have x1 := X.cell 1
  simp at x0 x1
  have HW := Lib.hid hW
  clear hW X
  by_cases h1 : inB h 1 8 = true
  · go_enter Tryz.func116, Tryz.ntmps116
    go_upto_region 1 with fail
    rw [HW.out]
    clear HW
    go_wp2_with (go_at_call 36; refine (hin_any _ _ _ _).mono ?_; rintro e w1 ⟨rfl, rfl⟩; try rw [h1])
    go_ret
    exact ⟨ret_bool (by simp [h1]), hbW⟩
  · have h1' : inB h 1 8 = false := by simpa using h1
    go_enter Tryz.func116, Tryz.ntmps116
    go_upto_region 1 with fail
    rw [HW.out]
    clear HW
    go_wp2_with (go_at_call 36; refine (hin_any _ _ _ _).mono ?_; rintro e w1 ⟨rfl, rfl⟩; try rw [h1'])
    go_ret
    exact ⟨ret_bool (by simp [h1']), hbW⟩

set_option maxRecDepth 100000 in
set_option maxHeartbeats 1000000 in
theorem nameOf_any (n : NoteD) (w : World) :
    Calls Tryz.prog 73 #[.agg n.arr] w fun e w' => e = .returned (.agg #[.int .i64 n.house, .int .i64 n.num]) ∧ Below w.heap.size w w' := by
  obtain ⟨W, hW⟩ : ∃ W, (w.alloc (.cells n.arr 68)).alloc (.cells #[.int .i64 0, .int .i64 0] 66) = W := ⟨_, rfl⟩
  have hbW : Below w.heap.size w W := by rw [← hW]; exact ((Below.refl _ _).alloc (Nat.le_refl _) _).alloc (by simp) _
  have X := (show Bk W w.heap.size 68 n.arr by rw [← hW]; exact (bk_last rfl).alloc _)
  have Y := (show Bk W (w.heap.size + 1) 66 #[.int .i64 0, .int .i64 0] by rw [← hW]; exact bk_last (by simp))
  unfold NoteD.arr at *
  have x0 := X.cell 0
  have x1 := X.cell 1
  have y0 := Y.cell 0
  have y1 := Y.cell 1
  have z0 := Y.fz 0
  have z1 := Y.fz 1
  have zl := Y.lt
  simp at x0 x1 y0 y1
  have HW := Lib.hid hW
  clear hW X Y
  go_enter Tryz.func73, Tryz.ntmps73
  go_upto_region 1 with fail
  rw [HW.out]
  clear HW
  go_wp2_with fail
  refine bodyPost_ret (v := .agg #[.int .i64 n.house, .int .i64 n.num]) (by simp [results, Tryz.results73, go_sem, y0, y1, zl]) rfl ?_
  exact ⟨rfl, (hbW.setCell (by simp) _).setCell (by simp) _⟩
end Go.Proofs.YteihcodicfoiaaaGreat
namespace Go.Proofs.YteihcodicfoiaaaGreat
open Go.RowKit
attribute [local go_sem ↓] max_int min_int

theorem getD_get {α : Type} (l : List α) (d : α) {k : Nat} (hk : k < l.length) : l.getD k d = l[k] := by
  rw [List.getD_eq_getElem?_getD, List.getElem?_eq_getElem hk]; rfl
theorem getD_mem {α : Type} {l : List α} (d : α) {k : Nat} (hk : k < l.length) : l.getD k d ∈ l := by
  rw [getD_get l d hk]; exact List.getElem_mem hk
theorem RowAt.intD {w : World} {A : Option Addr} {xs : List Int} (h : RowAt w A (intCells xs)) (h0 : 0 < xs.length) :
    ∃ b off, A = some ⟨b, off, none⟩ ∧ b < w.heap.size ∧ ∀ k, k < xs.length → w.cell? ⟨b, off + k, none⟩ = some (.int .i64 (xs.getD k 0)) := by
  obtain ⟨b, off, h1, h2, h3⟩ := h.int h0
  exact ⟨b, off, h1, h2, fun k hk => by rw [getD_get _ _ hk]; exact h3 k hk⟩

def runS (S sec turn : Nat) : Nat := (sec + S - turn) % S
theorem runS_val {S sec turn : Nat} (h : turn < S) : (((sec : Int) - turn) % S) = (runS S sec turn : Int) := by
  unfold runS
  rw [Int.natCast_emod, Int.natCast_sub (by omega), Int.natCast_add]
  rw [show ((sec : Int) + S - turn) = (sec - turn) + S by omega, Int.add_emod_right]
theorem runS_lt {S sec turn : Nat} (h : 0 < S) : runS S sec turn < S := Nat.mod_lt _ h
theorem cell_lt {R S ring sec : Nat} (h1 : ring < R) (h2 : sec < S) : ring * S + sec < R * S := by
  have : (ring + 1) * S ≤ R * S := Nat.mul_le_mul_right S h1
  rw [Nat.add_mul] at this
  omega
def bedK (f : Flr) (ring sec : Nat) : Int := f.bed.getD (ring * f.S + sec) 0
def runK (f : Flr) (ring sec turn : Nat) : Int := f.run.getD (ring * f.S + runS f.S sec turn) 0

set_option maxRecDepth 100000 in
set_option maxHeartbeats 4000000 in
theorem over_any (b : Nat) (f : Flr) (z : FLoc) (ring sec turn : Nat) (w : World) (hf : FlAt w b f z) (hok : f.Ok) (h1 : ring < f.R) (h2 : sec < f.S) (h3 : turn < f.S) :
    Calls Tryz.prog 170 #[.pointer (some ⟨b, 0, none⟩), stV ring sec turn] w fun e w' => e = .returned (.tuple #[.int .i64 (bedK f ring sec), .int .i64 (runK f ring sec turn)]) ∧ Below w.heap.size w w' := by
  obtain ⟨r0, r1, s0, s1, bl, rl, _, _, _, _⟩ := hok
  have hrs := runS_lt (S := f.S) (sec := sec) (turn := turn) (by omega)
  have c1 := cell_lt h1 h2
  have c2 := cell_lt h1 hrs
  obtain ⟨b1, o1, ha1, hb1, hc1⟩ := hf.bed.intD (by omega)
  obtain ⟨b2, o2, ha2, hb2, hc2⟩ := hf.run.intD (by omega)
  have d1 := hc1 (ring * f.S + sec) (by omega)
  have d2 := hc2 (ring * f.S + runS f.S sec turn) (by omega)
  have hrv := runS_val (S := f.S) (sec := sec) (turn := turn) h3
  obtain ⟨W, hW⟩ : ∃ W, w.alloc (.cells #[.int .i64 ring, .int .i64 sec, .int .i64 turn] 178) = W := ⟨_, rfl⟩
  have hbW : Below w.heap.size w W := by rw [← hW]; exact (Below.refl _ _).alloc (Nat.le_refl _) _
  have Y : Bk W w.heap.size 178 #[.int .i64 ring, .int .i64 sec, .int .i64 turn] := by rw [← hW]; exact bk_last rfl
  have hfW := hf.below hbW
  have x0 := hfW.cS
  have x1 := hfW.cB
  have x2 := hfW.cN
  rw [ha1] at x1
  rw [ha2] at x2
  have y0 := Y.cell 0
  have y1 := Y.cell 1
  have y2 := Y.cell 2
  simp at y0 y1 y2
  have HR : Hid (∀ x : Ext W, Calls Tryz.prog 81 #[.pointer (some ⟨b, 0, none⟩), .int .i64 ((sec : Int) - turn)] x.w fun e w' => e = .returned (.int .i64 (runS f.S sec turn)) ∧ Below x.w.heap.size x.w w') := fun x => by
    rw [← hrv]
    exact round_any b f.S _ x.w (by omega) (by omega) (hfW.below x.bel).cS (by omega)
  replace d1 := keepc hbW d1
  replace d2 := keepc hbW d2
  have HV : Hid (bedK f ring sec = f.bed.getD (ring * f.S + sec) 0 ∧ runK f ring sec turn = f.run.getD (ring * f.S + runS f.S sec turn) 0) := ⟨rfl, rfl⟩
  have HW := Lib.hid hW
  have q1 : (ring : Int) * f.S + sec < f.bed.length := by rw [bl]; omega
  have q2 : (ring : Int) * f.S + (runS f.S sec turn : Int) < f.run.length := by rw [rl]; omega
  have hm := mul_bound (a := ring) (b := f.S) (m := 4) (n := 8) (by omega) (by omega) (by omega) (by omega)
  have hw1 := IntWalk.i64_in ((ring : Int) * f.S) (by omega)
  have hw2 := IntWalk.i64_in ((ring : Int) * f.S + sec) (by omega)
  have hw3 := IntWalk.i64_in ((ring : Int) * f.S + (runS f.S sec turn : Int)) (by omega)
  have hw4 := IntWalk.i64_in ((sec : Int) - turn) (by omega)
  have t1 : ((ring : Int) * f.S + sec).toNat = ring * f.S + sec := by omega
  have t2 : ((ring : Int) * f.S + (runS f.S sec turn : Int)).toNat = ring * f.S + runS f.S sec turn := by omega
  have q3 : 0 ≤ (ring : Int) * f.S + sec := by omega
  have q4 : 0 ≤ (ring : Int) * f.S + (runS f.S sec turn : Int) := by omega
  clear hf hfW hW Y hc1 hc2 ha1 ha2 hrv c1 c2 bl rl hm
  generalize bedK f ring sec = bk at *
  generalize runK f ring sec turn = rk at *
  generalize f.bed.getD (ring * f.S + sec) 0 = bv at *
  generalize f.run.getD (ring * f.S + runS f.S sec turn) 0 = rv at *
  generalize runS f.S sec turn = rs at *
  generalize f.bed.length = bl at *
  generalize f.run.length = rl at *
  generalize f.R = R at *
  generalize f.S = S at *
  unfold stV
  go_enter Tryz.func170, Tryz.ntmps170
  go_upto_region 1 with fail
  rw [HW.out]
  clear HW
  replace x0 := fun x : Ext W => keepc x.bel x0
  replace x1 := fun x : Ext W => keepc x.bel x1
  replace x2 := fun x : Ext W => keepc x.bel x2
  replace y0 := fun x : Ext W => keepc x.bel y0
  replace y1 := fun x : Ext W => keepc x.bel y1
  replace y2 := fun x : Ext W => keepc x.bel y2
  replace d1 := fun x : Ext W => keepc x.bel d1
  replace d2 := fun x : Ext W => keepc x.bel d2
  refine wp_region_ext (by kernel_rfl) (by kernel_rfl) ?_
  repeat (go_big_quiet_step ((go_at_call 81; exact ext_of (HR.out _))))
  refine wpQuiet_nil ?_
  rintro _ ⟨y, rfl⟩
  have hb9 := y.bel
  generalize y.w = w9 at hb9 ⊢
  clear x0 x1 x2 y0 y1 y2 d1 d2 HR
  go_wp2_with fail
  go_ret2
  exact ⟨by rw [HV.out.1, HV.out.2]; rfl, hbW.trans (hb9.mono hbW.size)⟩

/-- The moves of a state: those of two kinds. -/
def mvIx (f : Flr) (ring sec turn : Nat) : Nat := (3 * bedK f ring sec + runK f ring sec turn).toNat
def mvsOf (f : Flr) (ring sec turn : Nat) : List Mv := f.drive.getD (mvIx f ring sec turn) []
theorem kinds_in {f : Flr} (hok : f.Ok) {ring sec turn : Nat} (h1 : ring < f.R) (h2 : sec < f.S) : (0 ≤ bedK f ring sec ∧ bedK f ring sec ≤ 2) ∧ (0 ≤ runK f ring sec turn ∧ runK f ring sec turn ≤ 2) ∧ mvIx f ring sec turn < 9 := by
  have e1 := hok.bk _ (getD_mem 0 (show ring * f.S + sec < f.bed.length by have := cell_lt h1 h2; have := hok.bl; omega))
  have e2 := hok.rk _ (getD_mem 0 (show ring * f.S + runS f.S sec turn < f.run.length by
    have := cell_lt h1 (runS_lt (S := f.S) (sec := sec) (turn := turn) (by have := hok.s0; omega))
    have := hok.rl
    omega))
  have e3 : 0 ≤ bedK f ring sec ∧ bedK f ring sec ≤ 2 := e1
  have e4 : 0 ≤ runK f ring sec turn ∧ runK f ring sec turn ≤ 2 := e2
  refine ⟨e3, e4, ?_⟩
  unfold mvIx
  omega

theorem mv_row {w : World} {A : Option Addr} {l : List Mv} (h : RowAt w A (mvCells l)) (h0 : 0 < l.length) :
    ∃ b off, A = some ⟨b, off, none⟩ ∧ b < w.heap.size ∧ ∀ k (hk : k < l.length), w.cell? ⟨b, off + k * 3, none⟩ = some (.int .i64 l[k].out) ∧ w.cell? ⟨b, off + k * 3 + 1, none⟩ = some (.int .i64 l[k].side) ∧ w.cell? ⟨b, off + k * 3 + 2, none⟩ = some (.bool l[k].cut) := by
  have hl : (mvCells l).length = l.length * 3 := flat_len _ 3 Mv.cells_len l
  obtain ⟨b, off, h1, h2, h3⟩ := h.some_ (by omega)
  refine ⟨b, off, h1, h2, fun k hk => ?_⟩
  have e := fun j (hj : j < 3) => flat_get Mv.cells 3 Mv.cells_len (by omega) l k j hk hj
  refine ⟨h3 _ _ (e 0 (by omega)), ?_, ?_⟩
  · rw [Nat.add_assoc]; exact h3 _ _ (e 1 (by omega))
  · rw [Nat.add_assoc]; exact h3 _ _ (e 2 (by omega))

set_option maxRecDepth 100000 in
set_option maxHeartbeats 4000000 in
theorem moves_any (b : Nat) (f : Flr) (z : FLoc) (ring sec turn : Nat) (w : World) (hf : FlAt w b f z) (hok : f.Ok) (h1 : ring < f.R) (h2 : sec < f.S) (h3 : turn < f.S) :
    Calls Tryz.prog 125 #[.pointer (some ⟨b, 0, none⟩), stV ring sec turn] w fun e w' => e = .returned (drCell f z (mvIx f ring sec turn)) ∧ Below w.heap.size w w' := by
  obtain ⟨k1, k2, k3⟩ := kinds_in hok (turn := turn) h1 h2
  have HO := Lib.hid (fun (W : World) (h : Below w.heap.size w W) => over_any b f z ring sec turn W (hf.below h) hok h1 h2 h3)
  have HF := Lib.hid hf
  have hix : 3 * bedK f ring sec + runK f ring sec turn = (mvIx f ring sec turn : Int) := by unfold mvIx; omega
  obtain ⟨W, hW⟩ : ∃ W, w.alloc (.cells #[.int .i64 ring, .int .i64 sec, .int .i64 turn] 178) = W := ⟨_, rfl⟩
  have hbW : Below w.heap.size w W := by rw [← hW]; exact (Below.refl _ _).alloc (Nat.le_refl _) _
  have Y : Bk W w.heap.size 178 #[.int .i64 ring, .int .i64 sec, .int .i64 turn] := by rw [← hW]; exact bk_last rfl
  have y0 := Y.cell 0
  have y1 := Y.cell 1
  have y2 := Y.cell 2
  simp at y0 y1 y2
  have HW := Lib.hid hW
  clear hW Y hf
  unfold stV at *
  generalize bedK f ring sec = bk at *
  generalize runK f ring sec turn = rk at *
  generalize mvIx f ring sec turn = ix at *
  go_enter Tryz.func125, Tryz.ntmps125
  go_upto_region 1 with fail
  rw [HW.out]
  clear HW
  go_upto_region 2 with (go_at_call 170; refine (HO.out _ hbW).mono ?_; rintro e w2 ⟨rfl, hb2⟩)
  clear y0 y1 y2
  have hB := hbW.trans (hb2.mono hbW.size)
  have hf2 := HF.out.below hB
  have x0 := hf2.cD k3
  have hw1 := IntWalk.i64_in (3 * bk) (by omega)
  have hw2 := IntWalk.i64_in (3 * bk + rk) (by omega)
  have hixI : (ix : Int) < 9 := by omega
  have q0 : 0 ≤ 3 * bk + rk := by omega
  have q1 : 3 * bk + rk < 9 := by omega
  have q2 : (3 * bk + rk).toNat = ix := by omega
  have hlt := hf2.blk.lt
  clear hix
  go_wp2_with fail
  go_ret
  exact ⟨rfl, hB⟩

/-- Where a move leads: none is out. -/
def nextN (f : Flr) (ring sec turn : Nat) (m : Mv) : Option Nat :=
  if (ring : Int) + m.out = f.R then none else some (numN f.R f.S ((ring : Int) + m.out).toNat (((sec : Int) + m.side) % f.S).toNat ((turn + 1) % f.S))
def nextV (o : Option Nat) : Int := match o with | none => -1 | some n => n

set_option maxRecDepth 100000 in
set_option maxHeartbeats 4000000 in
theorem next_any (b : Nat) (f : Flr) (z : FLoc) (ring sec turn : Nat) (m : Mv) (w : World) (hf : FlAt w b f z) (hok : f.Ok) (h1 : ring < f.R) (h2 : sec < f.S) (h3 : turn < f.S)
    (hm : -1 ≤ m.out ∧ m.out ≤ 1 ∧ -1 ≤ m.side ∧ m.side ≤ 1) :
    Calls Tryz.prog 225 #[.pointer (some ⟨b, 0, none⟩), stV ring sec turn, .agg #[.int .i64 m.out, .int .i64 m.side, .bool m.cut]] w fun e w' => e = .returned (.int .i64 (nextV (nextN f ring sec turn m))) ∧ Below w.heap.size w w' := by
  obtain ⟨r0, r1, s0, s1, _, _, _, _, _, _⟩ := id hok
  have HN := Lib.hid (fun (W : World) (h : Below w.heap.size w W) (a c d : Nat) (ha : a < f.R) (hc : c < f.S) (hd : d < f.S) => number_any b f z a c d W (hf.below h) hok ha hc hd)
  have HR := Lib.hid (fun (W : World) (h : Below w.heap.size w W) (n : Int) (hn : -1000 ≤ n ∧ n ≤ 1000) => round_any b f.S n W s0 s1 (hf.below h).cS hn)
  obtain ⟨mo, ms, mc⟩ := m
  obtain ⟨W, hW⟩ : ∃ W, (w.alloc (.cells #[.int .i64 ring, .int .i64 sec, .int .i64 turn] 178)).alloc (.cells #[.int .i64 mo, .int .i64 ms, .bool mc] 247) = W := ⟨_, rfl⟩
  have hbW : Below w.heap.size w W := by rw [← hW]; exact ((Below.refl _ _).alloc (Nat.le_refl _) _).alloc (by simp) _
  have Y : Bk W w.heap.size 178 #[.int .i64 ring, .int .i64 sec, .int .i64 turn] := by rw [← hW]; exact (bk_last rfl).alloc _
  have Z : Bk W (w.heap.size + 1) 247 #[.int .i64 mo, .int .i64 ms, .bool mc] := by rw [← hW]; exact bk_last (by simp)
  have y0 := Y.cell 0
  have y1 := Y.cell 1
  have y2 := Y.cell 2
  have z0 := Z.cell 0
  have z1 := Z.cell 1
  simp at y0 y1 y2 z0 z1
  have x0 := (hf.below hbW).cR
  have HW := Lib.hid hW
  clear hW Y Z
  simp only at hm
  have hw1 := IntWalk.i64_in ((ring : Int) + mo) (by omega)
  have hw2 := IntWalk.i64_in ((sec : Int) + ms) (by omega)
  have hw3 := IntWalk.i64_in ((turn : Int) + 1) (by omega)
  unfold stV at *
  by_cases hq : (ring : Int) + mo = f.R
  · have HV : Hid (nextV (nextN f ring sec turn ⟨mo, ms, mc⟩) = -1) := by simp [Hid, nextN, hq, nextV]
    have hqb : ((ring : Int) + mo == f.R) = true := by simpa using hq
    clear hq
    go_enter Tryz.func225, Tryz.ntmps225
    go_upto_region 1 with fail
    rw [HW.out]
    clear HW
    go_quiet (fail)
    go_wp2_with fail
    go_ret
    exact ⟨by rw [HV.out]; rfl, below_drewN hbW _⟩
  · have hqb : ((ring : Int) + mo == f.R) = false := by simpa using hq
    have hmx : max 0 ((ring : Int) + mo) = (((ring : Int) + mo).toNat : Int) := by omega
    have hr2 : ((ring : Int) + mo).toNat < f.R := by omega
    have e2 : ((sec : Int) + ms) % f.S = ((((sec : Int) + ms) % f.S).toNat : Int) := by have := Int.emod_nonneg ((sec : Int) + ms) (b := f.S) (by omega); omega
    have l2 : (((sec : Int) + ms) % f.S).toNat < f.S := by have := Int.emod_lt_of_pos ((sec : Int) + ms) (b := f.S) (by omega); omega
    have e3 : ((turn : Int) + 1) % f.S = (((turn + 1) % f.S : Nat) : Int) := by simp
    have l3 : (turn + 1) % f.S < f.S := Nat.mod_lt _ (by omega)
    have HV : Hid (nextV (nextN f ring sec turn ⟨mo, ms, mc⟩) = numN f.R f.S ((ring : Int) + mo).toNat (((sec : Int) + ms) % f.S).toNat ((turn + 1) % f.S)) := by simp [Hid, nextN, hq, nextV]
    have HN2 := Lib.hid (fun (W : World) (h : Below w.heap.size w W) => HN.out W h _ _ _ hr2 l2 l3)
    have HR2 := Lib.hid (fun (W : World) (h : Below w.heap.size w W) => HR.out W h ((sec : Int) + ms) (by omega))
    have HR3 := Lib.hid (fun (W : World) (h : Below w.heap.size w W) => HR.out W h ((turn : Int) + 1) (by omega))
    rw [e2] at HR2
    rw [e3] at HR3
    clear hq HN HR e2 e3
    generalize numN f.R f.S ((ring : Int) + mo).toNat (((sec : Int) + ms) % f.S).toNat ((turn + 1) % f.S) = nn at *
    generalize ((ring : Int) + mo).toNat = rr at *
    generalize (((sec : Int) + ms) % f.S).toNat = ss at *
    generalize (turn + 1) % f.S = tt at *
    go_enter Tryz.func225, Tryz.ntmps225
    go_upto_region 1 with fail
    rw [HW.out]
    clear HW
    have X0 := fun x : Ext W => keepc x.bel x0
    have Y0 := fun x : Ext W => keepc x.bel y0
    have Y1 := fun x : Ext W => keepc x.bel y1
    have Y2 := fun x : Ext W => keepc x.bel y2
    have Z0 := fun x : Ext W => keepc x.bel z0
    have Z1 := fun x : Ext W => keepc x.bel z1
    refine wp_region_ext (by kernel_rfl) (by kernel_rfl) ?_
    repeat (go_big_quiet_step (fail))
    refine wpQuiet_nil ?_
    rintro _ ⟨y, rfl⟩
    clear X0 Y0 Y1 Y2 Z0 Z1
    have hb2 := y.bel
    generalize y.w = w2 at hb2 ⊢
    have hB2 := hbW.trans (hb2.mono hbW.size)
    replace x0 := keepc hb2 x0
    replace y0 := keepc hb2 y0
    replace y1 := keepc hb2 y1
    replace y2 := keepc hb2 y2
    replace z0 := keepc hb2 z0
    replace z1 := keepc hb2 z1
    go_upto_region 3 with fail
    have K1 : Hid (∀ x : Ext w2, Calls Tryz.prog 81 #[.pointer (some ⟨b, 0, none⟩), .int .i64 ((sec : Int) + ms)] x.w fun e w' => e = .returned (.int .i64 ss) ∧ Below x.w.heap.size x.w w') := fun x => HR2.out x.w (hB2.trans (x.bel.mono hB2.size))
    have K2 : Hid (∀ x : Ext w2, Calls Tryz.prog 81 #[.pointer (some ⟨b, 0, none⟩), .int .i64 ((turn : Int) + 1)] x.w fun e w' => e = .returned (.int .i64 tt) ∧ Below x.w.heap.size x.w w') := fun x => HR3.out x.w (hB2.trans (x.bel.mono hB2.size))
    have K3 : Hid (∀ x : Ext w2, Calls Tryz.prog 152 #[.pointer (some ⟨b, 0, none⟩), .agg #[.int .i64 rr, .int .i64 ss, .int .i64 tt]] x.w fun e w' => e = .returned (.int .i64 nn) ∧ Below x.w.heap.size x.w w') := fun x => HN2.out x.w (hB2.trans (x.bel.mono hB2.size))
    replace x0 := fun x : Ext w2 => keepc x.bel x0
    replace y0 := fun x : Ext w2 => keepc x.bel y0
    replace y1 := fun x : Ext w2 => keepc x.bel y1
    replace y2 := fun x : Ext w2 => keepc x.bel y2
    replace z0 := fun x : Ext w2 => keepc x.bel z0
    replace z1 := fun x : Ext w2 => keepc x.bel z1
    refine wp_region_ext (by kernel_rfl) (by kernel_rfl) ?_
    repeat (go_big_quiet_step (fail))
    go_big_quiet_step ((go_at_call 81; exact ext_of (K1.out _)))
    repeat (go_big_quiet_step (fail))
    go_big_quiet_step ((go_at_call 81; exact ext_of (K2.out _)))
    repeat (go_big_quiet_step (fail))
    go_big_quiet_step ((go_at_call 152; exact ext_of (K3.out _)))
    repeat (go_big_quiet_step (fail))
    refine wpQuiet_nil ?_
    rintro _ ⟨y, rfl⟩
    clear x0 y0 y1 y2 z0 z1
    have hb3 := y.bel
    generalize y.w = w3 at hb3 ⊢
    go_wp2_with fail
    go_ret
    exact ⟨by rw [HV.out]; rfl, hB2.trans (hb3.mono hB2.size)⟩

end Go.Proofs.YteihcodicfoiaaaGreat
