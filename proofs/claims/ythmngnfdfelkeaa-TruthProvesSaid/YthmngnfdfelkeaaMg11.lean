/-
  What is proved: the contracts of slices.Compact (on two numbers) and of the iterator over all ways.
  What is proved: the contract of the iterator over all ways.
-/
import Derived.Test.YthmngnfdfelkeaaReach2Mg
import Derived.Test.YthmngnfdfelkeaaMg7
import Derived.Lib.SliceRun
namespace Go.Proofs.Ythmngnfdfelkeaa
open Go.RowKit Go.Shelf
attribute [local go_sem] Oper.semAt_some
attribute [local go_sem ↓] max_int min_int

set_option maxRecDepth 100000 in
set_option maxHeartbeats 1000000 in
theorem compact_ne (B : Nat) (a b : Int) (w : World) (h : Bk w B 3 #[.int .i64 a, .int .i64 b]) (hne : a ≠ b) :
    Calls Try.prog 119 #[.slice (some ⟨B, 0, none⟩) 2 2] w fun e w' => e = .returned (.slice (some ⟨B, 0, none⟩) 2 2) ∧ ∃ n, w' = w.drewN n := by
  have c0 := h.cell 0
  have c1 := h.cell 1
  simp at c0 c1
  have hn : (b == a) = false := by simpa using fun e => hne e.symm
  go_enter Try.func119, Try.ntmps119
  go_wp2
  go_loopw [3] (fun i wr => ∃ k : Nat, 1 ≤ k ∧ k ≤ 2 ∧ i = .int .i64 k ∧ ∃ n, wr = w.drewN n) (fun i _ => 2 - (intOf i).toNat)
  case atStart => exact ⟨1, by omega, by omega, rfl, 0, rfl⟩
  case round =>
    obtain ⟨k, hk1, hk2, rfl, n, rfl⟩ := hrel
    rcases Nat.lt_or_ge k 2 with h2 | h2
    · obtain rfl : k = 1 := by omega
      go_wp2
      go_quiet (fail)
      go_wp2
      go_roundw
      case rel => exact ⟨2, by omega, by omega, rfl, _, rfl⟩
      case measure => simp [intOf]
    · obtain rfl : k = 2 := by omega
      go_wp2
      go_ret
      exact ⟨rfl, n, rfl⟩

theorem zero3 (w : World) : (zeroValue 3).run Try.prog w = .ok (.int .i64 0) w := by kernel_rfl

set_option maxRecDepth 100000 in
set_option maxHeartbeats 1000000 in
theorem compact_eq (B : Nat) (w : World) (h : Bk w B 3 #[.int .i64 0, .int .i64 0]) :
    Calls Try.prog 119 #[.slice (some ⟨B, 0, none⟩) 2 2] w fun e w' => e = .returned (.slice (some ⟨B, 0, none⟩) 1 2) ∧ w.grownBy w' (some B) ∧ Bk w' B 3 #[.int .i64 0, .int .i64 0] := by
  have c0 := h.cell 0
  have c1 := h.cell 1
  have f0 := h.fz 0
  have f1 := h.fz 1
  simp at c0 c1
  go_enter Try.func119, Try.ntmps119
  go_wp2
  go_loopw [3] (fun i wr => i = .int .i64 1 ∧ wr = w) (fun i _ => 0)
  case atStart => exact ⟨rfl, rfl⟩
  case round =>
    obtain ⟨rfl, rfl⟩ := hrel
    have hcl : ∀ n, (Builtin.clear_ #[22] 0 #[.slice (some ⟨B, 1, none⟩) 1 1]).run Try.prog (wr.drewN n) = .ok (.tuple #[]) ((wr.drewN n).setCell ⟨B, 1, none⟩ (.int .i64 0)) := fun n => by
      have i1 : ∀ j, j < 1 → ((wr.drewN n).cell? ⟨B, 1 + j, none⟩).isSome = true := fun j hj => by
        obtain rfl : j = 0 := by omega
        rw [show (wr.drewN n).cell? ⟨B, 1 + 0, none⟩ = some (.int .i64 0) from c1]
        rfl
      have i2 : ∀ j, j < 1 → (wr.drewN n).frozen? ⟨B, 1 + j, none⟩ = false := fun j hj => by
        obtain rfl : j = 0 := by omega
        exact f1
      exact Lib.run_clear_slice (wr.drewN n) 22 3 0 (.int .i64 0) Try.underlying22 zero3 rfl rfl B 1 1 1 (by omega) i1 i2
    go_wp2
    go_quiet (fail)
    go_wp2
    go_loopw [3, 5] (fun k i wr' => k = .int .i64 1 ∧ i = .int .i64 1 ∧ wr' = wr.drewN nq) (fun _ i _ => 0)
    case atStart => exact ⟨rfl, rfl, rfl⟩
    case round =>
      obtain ⟨rfl, rfl, rfl⟩ := hrel
      go_wp2
      go_ret
      refine ⟨rfl, ?_, (h.drewN nq).put 1 (.int .i64 0)⟩
      have h1 : wr.grownBy (wr.drewN nq) (some B) := ⟨rfl, rfl, rfl, Nat.le_refl _, fun _ _ _ => rfl⟩
      have h2 := grownBy_set (wr.drewN nq) B 1 (.int .i64 0)
      exact ⟨h2.os.trans h1.os, h2.tape.trans h1.tape, h2.output.trans h1.output, Nat.le_trans h1.size h2.size, fun k hk hne => (h2.block k hk hne).trans (h1.block k hk hne)⟩

end Go.Proofs.Ythmngnfdfelkeaa
namespace Go.Proofs.Ythmngnfdfelkeaa
open Go.RowKit Go.Shelf
attribute [local go_sem] Oper.semAt_some
attribute [local go_sem ↓] max_int min_int

abbrev Way := { p : Int × Int // WayOk p }

/-- The ways of one size with one x. -/
def rowW (size : Nat) (x : Int) : List Way :=
  if h : x.natAbs ≤ 100 ∧ x.natAbs ≤ size ∧ size - x.natAbs ≤ 100 then
    if size = x.natAbs then [⟨(x, 0), by simp only [WayOk]; omega⟩]
    else [⟨(x, -((size - x.natAbs : Nat) : Int)), by simp only [WayOk]; omega⟩, ⟨(x, ((size - x.natAbs : Nat) : Int)), by simp only [WayOk]; omega⟩]
  else []
def preX (size j : Nat) : List Way := (List.range j).flatMap fun i : Nat => rowW size ((i : Int) - ((min size 100 : Nat) : Int))
def preS (n : Nat) : List Way := (List.range n).flatMap fun i => preX (i + 1) (2 * min (i + 1) 100 + 1)
def wayL : List Way := preS 200

theorem preX_succ (size j : Nat) : preX size (j + 1) = preX size j ++ rowW size ((j : Int) - ((min size 100 : Nat) : Int)) := by
  unfold preX
  rw [List.range_succ, List.flatMap_append]
  simp
theorem preS_succ (n : Nat) : preS (n + 1) = preS n ++ preX (n + 1) (2 * min (n + 1) 100 + 1) := by
  unfold preS
  rw [List.range_succ, List.flatMap_append]
  simp
theorem rowW_len (size : Nat) (x : Int) : (rowW size x).length ≤ 2 := by
  unfold rowW
  split
  · split <;> simp
  · simp
theorem preX_len (size : Nat) : ∀ j, (preX size j).length ≤ 2 * j
  | 0 => by simp [preX]
  | j + 1 => by
    have := preX_len size j
    have := rowW_len size ((j : Int) - ((min size 100 : Nat) : Int))
    rw [preX_succ, List.length_append]
    omega
theorem preS_len : ∀ n, (preS n).length ≤ 402 * n
  | 0 => by simp [preS]
  | n + 1 => by
    have := preS_len n
    have := preX_len (n + 1) (2 * min (n + 1) 100 + 1)
    rw [preS_succ, List.length_append]
    omega

theorem preX_mono (size : Nat) {a b : Nat} (h : a ≤ b) : preX size a <+: preX size b := by
  induction b with
  | zero => obtain rfl : a = 0 := by omega
            exact List.prefix_refl _
  | succ b ih =>
    rcases Nat.lt_or_eq_of_le h with h | h
    · rw [preX_succ]
      exact (ih (by omega)).trans (List.prefix_append _ _)
    · subst h; exact List.prefix_refl _
theorem preS_mono {a b : Nat} (h : a ≤ b) : preS a <+: preS b := by
  induction b with
  | zero => obtain rfl : a = 0 := by omega
            exact List.prefix_refl _
  | succ b ih =>
    rcases Nat.lt_or_eq_of_le h with h | h
    · rw [preS_succ]
      exact (ih (by omega)).trans (List.prefix_append _ _)
    · subst h; exact List.prefix_refl _
theorem pre_way {k j : Nat} (hk : k < 200) (hj : j < 2 * min (k + 1) 100 + 1) (i : Nat) : preS k ++ preX (k + 1) j ++ (rowW (k + 1) ((j : Int) - ((min (k + 1) 100 : Nat) : Int))).take i <+: wayL := by
  have h1 : preX (k + 1) j ++ (rowW (k + 1) ((j : Int) - ((min (k + 1) 100 : Nat) : Int))).take i <+: preX (k + 1) (j + 1) := by
    rw [preX_succ]
    exact (List.prefix_append_right_inj _).2 (List.take_prefix _ _)
  have h2 := h1.trans (preX_mono (k + 1) (show j + 1 ≤ 2 * min (k + 1) 100 + 1 by omega))
  rw [List.append_assoc]
  have h3 : preS k ++ (preX (k + 1) j ++ (rowW (k + 1) ((j : Int) - ((min (k + 1) 100 : Nat) : Int))).take i) <+: preS (k + 1) := by
    rw [preS_succ]
    exact (List.prefix_append_right_inj _).2 h2
  exact h3.trans (preS_mono (by omega))
theorem way_len {l : List Way} (h : l <+: wayL) : l.length < 100000 := by
  have h1 := h.length_le
  have h2 := preS_len 200
  unfold wayL at h1
  omega

/-- Whatever is cells lies as it lay. -/
def KeepC (W W' : World) : Prop := W.heap.size ≤ W'.heap.size ∧ ∀ (b : Nat) (cs : Array Value) (t : TypeId) (fr : Nat × Nat), W.heap[b]? = some (Obj.cells cs t fr) → W'.heap[b]? = some (Obj.cells cs t fr)
theorem KeepC.bk {W W' : World} (h : KeepC W W') {b : Nat} {t : TypeId} {cs : Array Value} (hb : Bk W b t cs) : Bk W' b t cs := h.2 b cs t (0, 0) hb
theorem KeepC.trans {A B C : World} (h : KeepC A B) (k : KeepC B C) : KeepC A C := ⟨Nat.le_trans h.1 k.1, fun b cs t fr hb => k.2 b cs t fr (h.2 b cs t fr hb)⟩

def encW (p : Way) : Array Value := #[.agg #[.int .i64 p.1.1, .int .i64 p.1.2]]

theorem ways_any (w : World) : Calls Try.prog 79 #[] w fun e w' => e = .returned (.func (.func 118) #[] #[]) ∧ w = w' := by
  go_enter Try.func79, Try.ntmps79
  go_wp2
  go_ret
  exact ⟨rfl, rfl⟩

set_option maxRecDepth 100000 in
set_option maxHeartbeats 8000000 in
theorem ways1_in (n l : Nat) (W : World) (J Jx : List Way → World → Prop)
    (hJ : ∀ pre W1 W2, J pre W1 → W1.grownBy W2 none → J pre W2)
    (hY : ∀ pre x W1, J pre W1 → pre.length < 100000 → YieldAt Fence.wide (n - 1) Try.prog l (encW x) W1 fun e W' =>
      (e = .returned (.bool true) ∧ J (pre ++ [x]) W' ∧ KeepC W1 W') ∨ (e = .returned (.bool false) ∧ Jx (pre ++ [x]) W'))
    (h0 : J [] W) :
    CallsIn Fence.wide n Try.prog 118 #[.func (.yield l) #[] #[]] W fun e W' => (∃ v, e = .returned v) ∧ ((∃ xs, xs = wayL ∧ J xs W') ∨ (∃ pre, pre <+: wayL ∧ Jx pre W')) := by
  refine callsIn_of_wp Try.func118 rfl trivial ?_ rfl
  simp only [Try.ntmps118, List.size_toArray, List.length_cons, List.length_nil, Nat.reduceAdd, Nat.reduceSub, Array.replicate_succ, Array.replicate_zero, List.push_toArray, List.append_toArray, List.nil_append, List.cons_append]
  gi_wp2
  gi_loopw [2] (fun sz wr => ∃ k : Nat, k ≤ 200 ∧ sz = .int .i64 ((k : Int) + 1) ∧ J (preS k) wr) (fun sz _ => 201 - (intOf sz).toNat)
  case atStart => exact ⟨0, by omega, rfl, h0⟩
  case round =>
    clear h0
    obtain ⟨k, hk, rfl, hJ1⟩ := hrel
    rcases Nat.lt_or_ge k 200 with hk2 | hk2
    · have hmin : min ((k : Int) + 1) 100 = ((min (k + 1) 100 : Nat) : Int) := by omega
      have hm1 : 1 ≤ min (k + 1) 100 ∧ min (k + 1) 100 ≤ 100 ∧ min (k + 1) 100 ≤ k + 1 := by omega
      generalize hM : min (k + 1) 100 = M at *
      have hkI : (k : Int) + 1 ≤ 200 := by omega
      gi_wp2
      gi_loopw [3] (fun x wr => ∃ j : Nat, j ≤ 2 * M + 1 ∧ x = .int .i64 ((j : Int) - M) ∧ J (preS k ++ preX (k + 1) j) wr) (fun x _ => (M + 1 - intOf x).toNat)
      case atStart => exact ⟨0, by omega, by go_num, by simpa [preX] using hJ1⟩
      case round =>
        clear hJ1
        obtain ⟨j, hj, rfl, hJ2⟩ := hrel
        rcases Nat.lt_or_ge j (2 * M + 1) with hj2 | hj2
        · obtain ⟨a, ha⟩ : ∃ a, ((j : Int) - M).natAbs = a := ⟨_, rfl⟩
          have haM : a ≤ M := by omega
          have hmax : max ((j : Int) - M) (-((j : Int) - M)) = (a : Int) := by omega
          obtain ⟨r, hr⟩ : ∃ r, k + 1 - a = r := ⟨_, rfl⟩
          have hrI : (k : Int) + 1 - a = (r : Int) := by omega
          have hpw := fun i => pre_way hk2 (by rw [hM]; exact hj2) i
          rw [hM] at hpw
          have hnext : preS k ++ preX (k + 1) (j + 1) = preS k ++ preX (k + 1) j ++ rowW (k + 1) ((j : Int) - (M : Int)) := by rw [preX_succ, hM, List.append_assoc]
          have Hnext := Lib.hid hnext
          have Hpw := Lib.hid hpw
          have HJ2 := Lib.hid hJ2
          clear hnext hpw hJ2
          obtain ⟨q, hq⟩ : ∃ q, wr.heap.size = q := ⟨_, rfl⟩
          have hbx : Bk (wr.alloc (.cells #[.int .i64 (-(r : Int)), .int .i64 r] 3)) q 3 #[.int .i64 (-(r : Int)), .int .i64 r] := bk_last hq
          have HJ3 := Lib.hid (hJ _ _ _ HJ2.out (World.grownBy_alloc wr (.cells #[.int .i64 (-(r : Int)), .int .i64 r] 3) none))
          have hjI : (j : Int) - M ≤ M := by omega
          have hd : Fence.wide.depth.isSome = true → 1 ≤ n := fun h => by simp [Fence.wide] at h
          have hrow : a ≤ 100 ∧ a ≤ k + 1 := by omega
          by_cases h0 : r = 0
          · subst h0
            obtain ⟨p0, hrowE⟩ : ∃ p0, rowW (k + 1) ((j : Int) - (M : Int)) = [⟨((j : Int) - M, 0), p0⟩] := ⟨by simp only [WayOk]; omega, by
              unfold rowW
              rw [dif_pos (by omega), if_pos (by omega)]⟩
            have hpr : ∀ i, preS k ++ preX (k + 1) j ++ ([⟨((j : Int) - M, 0), p0⟩] : List Way).take i <+: wayL := fun i => by rw [← hrowE]; exact Hpw.out i
            have hz0 : Bk (wr.alloc (.cells #[.int .i64 0, .int .i64 0] 3)) q 3 #[.int .i64 0, .int .i64 0] := bk_last hq
            have HJ4 := Lib.hid (fun (w1 : World) (h : (wr.alloc (.cells #[.int .i64 0, .int .i64 0] 3)).grownBy w1 (some q)) => hJ _ _ _ HJ2.out (show wr.grownBy w1 none from ⟨h.os, h.tape, h.output, Nat.le_trans (by simp) h.size, fun b hb _ => (h.block b (by simp; omega) (fun e => by injection e with e; omega)).trans (Below.heap_alloc wr _ b hb)⟩))
            clear hbx HJ3
            gi_wp2_with (refine ⟨trivial, hd, ?_⟩; gi_at_call 119; refine (callsIn_wide.2 (compact_eq _ _ hz0)).mono ?_; rintro e w1 ⟨rfl, HC⟩)
            obtain ⟨hg1, hb1⟩ := HC
            have hJ1 := HJ4.out w1 hg1
            clear hg1 hz0
            gi_loopw [32] (fun i wr2 => ∃ i0 : Nat, i0 ≤ 1 ∧ i = .int .i64 i0 ∧ Bk wr2 q 3 #[.int .i64 0, .int .i64 0] ∧ J (preS k ++ preX (k + 1) j ++ ([⟨((j : Int) - M, 0), p0⟩] : List Way).take i0) wr2) (fun i _ => 1 - (intOf i).toNat)
            case atStart => exact ⟨0, by omega, rfl, hb1, by simpa using hJ1⟩
            case round =>
              clear hb1 hJ1
              obtain ⟨i0, hi, rfl, hbk, hJk⟩ := hrel
              rcases (show i0 = 0 ∨ i0 = 1 by omega) with rfl | rfl
              · have c0 := hbk.cell 0
                simp at c0
                obtain ⟨fn, tmps, assign, body, hy, hR⟩ := hY _ ⟨((j : Int) - M, 0), p0⟩ wr hJk (way_len (hpr 0))
                unfold encW at hy
                simp only at hy
                gi_wp2
                refine ⟨hd, hR.mono ?_⟩
                rintro e W3 (⟨rfl, hJ3, hk3⟩ | ⟨rfl, hJx3⟩)
                · gi_wp2
                  go_roundw
                  case rel => exact ⟨1, by omega, by go_num, hk3.bk hbk, by simpa [List.append_assoc] using hJ3⟩
                  case measure => simp [intOf]
                · gi_wp2
                  refine bodyPost_ret (results_none rfl _ _ _) rfl ?_
                  exact ⟨⟨_, rfl⟩, .inr ⟨_, hpr 1, by simpa [List.append_assoc] using hJx3⟩⟩
              · gi_wp2
                rw [List.take_of_length_le (by simp)] at hJk
                refine ⟨⟨j + 1, by omega, by rw [show ((j + 1 : Nat) : Int) - M = (j : Int) - M + 1 by omega], ?_⟩, by simp [intOf]; omega⟩
                rw [Hnext.out, hrowE]
                exact hJk
          · have hne : -(r : Int) ≠ r := by omega
            gi_wp2_with (refine ⟨trivial, hd, ?_⟩; gi_at_call 119; refine (callsIn_wide.2 (compact_ne _ _ _ _ hbx hne)).mono ?_; rintro e w1 ⟨rfl, HC⟩)
            obtain ⟨nz, rfl⟩ := HC
            have hb1 : Bk ((wr.alloc (.cells #[.int .i64 (-(r : Int)), .int .i64 r] 3)).drewN nz) q 3 #[.int .i64 (-(r : Int)), .int .i64 r] := hbx
            have hJ1 := hJ _ _ ((wr.alloc (.cells #[.int .i64 (-(r : Int)), .int .i64 r] 3)).drewN nz) HJ3.out ⟨rfl, rfl, rfl, Nat.le_refl _, fun _ _ _ => rfl⟩
            clear hbx HJ3
            by_cases h100 : r ≤ 100
            · obtain ⟨p0, p1, hrowE⟩ : ∃ p0 p1, rowW (k + 1) ((j : Int) - (M : Int)) = [⟨((j : Int) - M, -(r : Int)), p0⟩, ⟨((j : Int) - M, (r : Int)), p1⟩] := ⟨by simp only [WayOk]; omega, by simp only [WayOk]; omega, by
                unfold rowW
                rw [dif_pos (by omega), if_neg (by omega)]
                simp only [ha, hr]⟩
              have hpr : ∀ i, preS k ++ preX (k + 1) j ++ ([⟨((j : Int) - M, -(r : Int)), p0⟩, ⟨((j : Int) - M, (r : Int)), p1⟩] : List Way).take i <+: wayL := fun i => by rw [← hrowE]; exact Hpw.out i
              gi_loopw [32] (fun i wr2 => ∃ i0 : Nat, i0 ≤ 2 ∧ i = .int .i64 i0 ∧ Bk wr2 q 3 #[.int .i64 (-(r : Int)), .int .i64 r] ∧ J (preS k ++ preX (k + 1) j ++ ([⟨((j : Int) - M, -(r : Int)), p0⟩, ⟨((j : Int) - M, (r : Int)), p1⟩] : List Way).take i0) wr2) (fun i _ => 2 - (intOf i).toNat)
              case atStart => exact ⟨0, by omega, rfl, hb1, by simpa using hJ1⟩
              case round =>
                clear hb1 hJ1
                obtain ⟨i0, hi, rfl, hbk, hJk⟩ := hrel
                rcases (show i0 = 0 ∨ i0 = 1 ∨ i0 = 2 by omega) with rfl | rfl | rfl
                · have c0 := hbk.cell 0
                  simp at c0
                  obtain ⟨fn, tmps, assign, body, hy, hR⟩ := hY _ ⟨((j : Int) - M, -(r : Int)), p0⟩ wr hJk (way_len (hpr 0))
                  unfold encW at hy
                  simp only at hy
                  gi_wp2
                  refine ⟨hd, hR.mono ?_⟩
                  rintro e W3 (⟨rfl, hJ3, hk3⟩ | ⟨rfl, hJx3⟩)
                  · gi_wp2
                    go_roundw
                    case rel => exact ⟨1, by omega, by go_num, hk3.bk hbk, by simpa [List.append_assoc] using hJ3⟩
                    case measure => simp [intOf]
                  · gi_wp2
                    refine bodyPost_ret (results_none rfl _ _ _) rfl ?_
                    exact ⟨⟨_, rfl⟩, .inr ⟨_, hpr 1, by simpa [List.append_assoc] using hJx3⟩⟩
                · have c0 := hbk.cell 1
                  simp at c0
                  obtain ⟨fn, tmps, assign, body, hy, hR⟩ := hY _ ⟨((j : Int) - M, (r : Int)), p1⟩ wr hJk (way_len (hpr 1))
                  unfold encW at hy
                  simp only at hy
                  gi_wp2
                  refine ⟨hd, hR.mono ?_⟩
                  rintro e W3 (⟨rfl, hJ3, hk3⟩ | ⟨rfl, hJx3⟩)
                  · gi_wp2
                    go_roundw
                    case rel => exact ⟨2, by omega, by go_num, hk3.bk hbk, by simpa [List.append_assoc] using hJ3⟩
                    case measure => simp [intOf]
                  · gi_wp2
                    refine bodyPost_ret (results_none rfl _ _ _) rfl ?_
                    exact ⟨⟨_, rfl⟩, .inr ⟨_, hpr 2, by simpa [List.append_assoc] using hJx3⟩⟩
                · gi_wp2
                  rw [List.take_of_length_le (by simp)] at hJk
                  refine ⟨⟨j + 1, by omega, by rw [show ((j + 1 : Nat) : Int) - M = (j : Int) - M + 1 by omega], ?_⟩, by simp [intOf]; omega⟩
                  rw [Hnext.out, hrowE]
                  exact hJk
            · have hrowE : rowW (k + 1) ((j : Int) - (M : Int)) = [] := by
                unfold rowW
                rw [dif_neg (by omega)]
              have h100I : (100 : Int) < r := by omega
              gi_loopw [32] (fun i wr2 => ∃ i0 : Nat, i0 ≤ 2 ∧ i = .int .i64 i0 ∧ Bk wr2 q 3 #[.int .i64 (-(r : Int)), .int .i64 r] ∧ J (preS k ++ preX (k + 1) j) wr2) (fun i _ => 2 - (intOf i).toNat)
              case atStart => exact ⟨0, by omega, rfl, hb1, by simpa using hJ1⟩
              case round =>
                clear hb1 hJ1
                obtain ⟨i0, hi, rfl, hbk, hJk⟩ := hrel
                rcases (show i0 = 0 ∨ i0 = 1 ∨ i0 = 2 by omega) with rfl | rfl | rfl
                · have c0 := hbk.cell 0
                  simp at c0
                  gi_wp2
                  refine ⟨fun _ h => (by cases h), ?_⟩
                  gi_wp2
                  go_roundw
                  case rel => exact ⟨1, by omega, by go_num, hbk, hJk⟩
                  case measure => simp [intOf]
                · have c0 := hbk.cell 1
                  simp at c0
                  gi_wp2
                  refine ⟨fun _ h => (by cases h), ?_⟩
                  gi_wp2
                  go_roundw
                  case rel => exact ⟨2, by omega, by go_num, hbk, hJk⟩
                  case measure => simp [intOf]
                · gi_wp2
                  refine ⟨⟨j + 1, by omega, by rw [show ((j + 1 : Nat) : Int) - M = (j : Int) - M + 1 by omega], ?_⟩, by simp [intOf]; omega⟩
                  rw [Hnext.out, hrowE]
                  simpa using hJk
        · obtain rfl : j = 2 * M + 1 := by omega
          gi_wp2
          exact ⟨⟨k + 1, by omega, by simp, by rw [preS_succ, hM]; exact hJ2⟩, by simp [intOf]; omega⟩
    · obtain rfl : k = 200 := by omega
      gi_wp2
      go_end0
      exact ⟨⟨_, rfl⟩, .inl ⟨_, rfl, hJ1⟩⟩

end Go.Proofs.Ythmngnfdfelkeaa
