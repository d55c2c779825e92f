/-
  What is proved: the contracts of has, whole, cuts, one and of the iterator over one number.
-/
import Derived.Test.YtkikjmkpndmdcaaSteps
namespace Go.Proofs.Ytkikjmkpndmdcaa
open Go.RowKit
attribute [local go_sem ↓] max_int min_int
attribute [local go_sem] Oper.semAt_some

set_option maxRecDepth 100000 in
set_option maxHeartbeats 1000000 in
theorem whole_any (m : Mv) (w : World) : Calls Try.prog 24 #[.agg #[.int .i64 m.out, .int .i64 m.side, .bool m.cut]] w fun e w' => e = .returned (.int .i64 1) ∧ Below w.heap.size w w' := by
  have hB : Below w.heap.size w (w.alloc (.cells #[.int .i64 m.out, .int .i64 m.side, .bool m.cut] 94)) := (Below.refl _ _).alloc (Nat.le_refl _) _
  go_enter Try.func24, Try.ntmps24
  go_wp2_with fail
  go_ret
  exact ⟨rfl, hB⟩

def cutsV (m : Mv) : Int := if m.cut then 1 else 0
set_option maxRecDepth 100000 in
set_option maxHeartbeats 1000000 in
theorem cuts_any (m : Mv) (w : World) : Calls Try.prog 25 #[.agg #[.int .i64 m.out, .int .i64 m.side, .bool m.cut]] w fun e w' => e = .returned (.int .i64 (cutsV m)) ∧ Below w.heap.size w w' := by
  have hB : Below w.heap.size w (w.alloc (.cells #[.int .i64 m.out, .int .i64 m.side, .bool m.cut] 94)) := (Below.refl _ _).alloc (Nat.le_refl _) _
  obtain ⟨mo, ms, mc⟩ := m
  cases mc
  · go_enter Try.func25, Try.ntmps25
    go_wp2_with fail
    go_ret
    exact ⟨rfl, hB⟩
  · go_enter Try.func25, Try.ntmps25
    go_wp2_with fail
    go_ret
    exact ⟨rfl, hB⟩

set_option maxRecDepth 100000 in
set_option maxHeartbeats 4000000 in
theorem has_any (b : Nat) (f : Flr) (z : FLoc) (ring sec turn : Nat) (w : World) (hf : FlAt w b f z) (h1 : ring < f.R) (h2 : sec < f.S) (h3 : turn < f.S) :
    Calls Try.prog 67 #[.pointer (some ⟨b, 0, none⟩), stV ring sec turn] w fun e w' => e = .returned (.bool true) ∧ Below w.heap.size w w' := by
  obtain ⟨W, hW⟩ : ∃ W, w.alloc (.cells #[.int .i64 ring, .int .i64 sec, .int .i64 turn] 40) = W := ⟨_, rfl⟩
  have hbW : Below w.heap.size w W := by rw [← hW]; exact (Below.refl _ _).alloc (Nat.le_refl _) _
  have Y : Bk W w.heap.size 40 #[.int .i64 ring, .int .i64 sec, .int .i64 turn] := by rw [← hW]; exact bk_last rfl
  have x0 := (hf.below hbW).cS
  have x1 := (hf.below hbW).cR
  have y0 := Y.cell 0
  have y1 := Y.cell 1
  have y2 := Y.cell 2
  simp at y0 y1 y2
  have HW := Lib.hid hW
  have q1 : (ring : Int) < f.R := by omega
  have q2 : (0 : Int) ≤ ring := by omega
  have q3 : 0 ≤ min (sec : Int) turn := by omega
  have q4 : max (sec : Int) turn < f.S := by omega
  clear hf hW Y h1 h2 h3
  unfold stV
  generalize (f.R : Int) = R at *
  generalize (f.S : Int) = S at *
  generalize (ring : Int) = ri at *
  generalize (sec : Int) = si at *
  generalize (turn : Int) = ti at *
  have p1 : decide (ri < R) = true := decide_eq_true q1
  have p2 : decide (ri ≥ 0) = true := decide_eq_true q2
  have p3 : decide (min si ti ≥ 0) = true := decide_eq_true q3
  have p4 : decide (max si ti < S) = true := decide_eq_true q4
  go_enter Try.func67, Try.ntmps67
  go_upto_region 1 with fail
  rw [HW.out]
  clear HW
  go_quiet (fail)
  go_wp2_with fail
  go_ret
  exact ⟨rfl, below_drewN hbW _⟩

set_option maxRecDepth 100000 in
set_option maxHeartbeats 1000000 in
theorem values_any (A : Option Addr) (n c : Nat) (w : World) :
    Calls Try.prog 70 #[.slice A n c] w fun e w' => e = .returned (.func (.func 83) #[] #[.pointer (some ⟨w.heap.size, 0, none⟩)]) ∧ Bk w' w.heap.size 28 #[.slice A n c] ∧ Below w.heap.size w w' := by
  have A0 : Bk (w.alloc (.cells #[.slice A n c] 28)) w.heap.size 28 #[.slice A n c] := bk_last rfl
  have hB : Below w.heap.size w (w.alloc (.cells #[.slice A n c] 28)) := (Below.refl _ _).alloc (Nat.le_refl _) _
  go_enter Try.func70, Try.ntmps70
  go_wp2_with fail
  go_ret
  exact ⟨rfl, A0, hB⟩

set_option maxRecDepth 100000 in
set_option maxHeartbeats 2000000 in
theorem one_any (i : Int) (w : World) :
    Calls Try.prog 47 #[.int .i64 i] w fun e w' => e = .returned (.func (.func 83) #[] #[.pointer (some ⟨w.heap.size + 1, 0, none⟩)]) ∧ Bk w' w.heap.size 3 #[.int .i64 i] ∧ Bk w' (w.heap.size + 1) 28 #[.slice (some ⟨w.heap.size, 0, none⟩) 1 1] ∧ Below w.heap.size w w' := by
  have A0 : Bk (w.alloc (.cells #[.int .i64 i] 3)) w.heap.size 3 #[.int .i64 i] := bk_last rfl
  have hB : Below w.heap.size w (w.alloc (.cells #[.int .i64 i] 3)) := (Below.refl _ _).alloc (Nat.le_refl _) _
  have hs : (w.alloc (.cells #[.int .i64 i] 3)).heap.size = w.heap.size + 1 := by simp
  have HV := Lib.hid (values_any (some ⟨w.heap.size, 0, none⟩) 1 1 (w.alloc (.cells #[.int .i64 i] 3)))
  rw [hs] at HV
  go_enter Try.func47, Try.ntmps47
  go_wp2_with (go_at_call 70; refine (HV.out).mono ?_; rintro e w2 ⟨rfl, h1, h2⟩)
  go_ret
  have h2' : Below (w.alloc (.cells #[.int .i64 i] 3)).heap.size (w.alloc (.cells #[.int .i64 i] 3)) w2 := by rw [hs]; exact h2
  exact ⟨rfl, A0.keep h2', h1, hB.trans (h2'.mono hB.size)⟩

set_option maxRecDepth 100000 in
set_option maxHeartbeats 4000000 in
theorem values1_stops (n Bs bl i : Nat) (Kp : World → World → Prop) (w : World) (h1 : Bk w Bs 28 #[.slice (some ⟨bl, 0, none⟩) 1 1]) (h2 : Bk w bl 3 #[.int .i64 i]) :
    SeqStopsK Fence.wide n Try.prog 83 #[.pointer (some ⟨Bs, 0, none⟩)] (fun _ : Unit => #[.int .i64 i]) Kp (fun xs => xs = [()]) (fun pre => pre <+: [()]) 1 w := by
  intro l J Jx W hW hJ hJx hY h0
  have K1 := h1.keep hW
  have K2 := h2.keep hW
  have b1 := K1.cell 0
  have b2 := K2.cell 0
  simp at b1 b2
  refine callsIn_of_wp Try.func83 rfl trivial ?_ rfl
  simp only [Try.ntmps83, List.size_toArray, List.length_cons, List.length_nil, Nat.reduceAdd, Nat.reduceSub, Array.replicate_succ, Array.replicate_zero, List.push_toArray, List.append_toArray, List.nil_append, List.cons_append]
  gi_wp2
  gi_loopw [4, 7] (fun _ ix wr => (ix = .int .i64 0 ∧ wr = W) ∨ (ix = .int .i64 1 ∧ J [()] wr)) (fun _ ix _ => 1 - (intOf ix).toNat)
  case atStart => exact Or.inl ⟨rfl, rfl⟩
  case round =>
    rcases hrel with ⟨rfl, rfl⟩ | ⟨rfl, hJ1⟩
    · obtain ⟨fn, tmps, assign, body, hy, hR⟩ := hY [] () _ h0 (by simp)
      gi_wp2
      refine ⟨fun h => (by simp [Fence.wide] at h), hR.mono ?_⟩
      rintro e W7 (⟨rfl, hJ7, _⟩ | ⟨rfl, hJx7⟩)
      · gi_wp2
        go_roundw
        case rel => exact Or.inr ⟨rfl, hJ7⟩
        case measure => simp [intOf]
      · gi_wp2
        refine bodyPost_ret (results_none rfl _ _ _) rfl ?_
        exact ⟨⟨_, rfl⟩, .inr ⟨[()], List.prefix_refl _, hJx7⟩⟩
    · gi_wp2
      go_end0
      exact ⟨⟨_, rfl⟩, .inl ⟨_, rfl, hJ1⟩⟩

end Go.Proofs.Ytkikjmkpndmdcaa
