/-
  What is proved: the contracts of ContainsFunc over moves (whether one cuts) and of the two indices.
-/
import Derived.Test.YtkikjmkpndmdcaaDriven
import Derived.Test.YtkikjmkpndmdcaaValid
namespace Go.Proofs.Ytkikjmkpndmdcaa
open Go.RowKit
attribute [local go_sem ↓] max_int min_int

set_option maxHeartbeats 1000000 in
theorem isCut_any (mo ms : Int) (mc : Bool) (w : World) : Calls Try.prog 44 #[.agg #[.int .i64 mo, .int .i64 ms, .bool mc]] w fun e w' => e = .returned (.bool mc) ∧ Below w.heap.size w w' := by
  have hB : Below w.heap.size w (w.alloc (.cells #[.int .i64 mo, .int .i64 ms, .bool mc] 94)) := (Below.refl _ _).alloc (Nat.le_refl _) _
  go_enter Try.func44, Try.ntmps44
  go_wp2_with fail
  go_ret
  exact ⟨rfl, hB⟩

/-- The first move that cuts, or -1. -/
def firstCut (l : List Mv) : Int := match l.findIdx? (fun m => m.cut) with | some i => i | none => -1
theorem firstCut_hit (l : List Mv) (k : Nat) (hk : k < l.length) (h : ∀ j, j < k → (l.getD j mv0).cut = false) (hb : (l.getD k mv0).cut = true) : firstCut l = k := by
  have e : l.findIdx? (fun m => m.cut) = some k := by
    rw [List.findIdx?_eq_some_iff_getElem]
    refine ⟨hk, by rw [getD_get _ _ hk] at hb; exact hb, fun j hj => ?_⟩
    have := h j hj
    rw [getD_get _ _ (by omega)] at this
    simp [this]
  simp [firstCut, e]
theorem firstCut_none (l : List Mv) (h : ∀ j, j < l.length → (l.getD j mv0).cut = false) : firstCut l = -1 := by
  have e : l.findIdx? (fun m => m.cut) = none := by
    rw [List.findIdx?_eq_none_iff]
    intro m hm
    obtain ⟨j, hj, rfl⟩ := List.getElem_of_mem hm
    have := h j hj
    rw [getD_get _ _ hj] at this
    simp [this]
  simp [firstCut, e]
theorem firstCut_any (l : List Mv) : decide (firstCut l ≥ 0) = l.any (fun m => m.cut) := by
  unfold firstCut
  cases e : l.findIdx? (fun m => m.cut) with
  | none =>
    rw [List.findIdx?_eq_none_iff] at e
    have h : l.any (fun m => m.cut) = false := by rw [List.any_eq_false]; intro m hm; simpa using e m hm
    simp [h]
  | some i =>
    rw [List.findIdx?_eq_some_iff_getElem] at e
    obtain ⟨hi, h1, _⟩ := e
    have h : l.any (fun m => m.cut) = true := by
      rw [List.any_eq_true]
      exact ⟨l[i], List.getElem_mem hi, h1⟩
    simp [h]

set_option maxRecDepth 100000 in
set_option maxHeartbeats 4000000 in
theorem index65_any (A : Option Addr) (c : Nat) (l : List Mv) (w : World) (hL : RowAt w A (mvCells l)) (hn : l.length ≤ 1000) :
    Calls Try.prog 65 #[.slice A l.length c, .func (.func 44) #[] #[]] w fun e w' => e = .returned (.int .i64 (firstCut l)) ∧ Below w.heap.size w w' := by
  have HL := Lib.hid hL
  clear hL
  have hB0 := Below.refl w.heap.size w
  go_enter Try.func65, Try.ntmps65
  go_wp2_with fail
  go_loopw [8] (fun i wr => ∃ k : Nat, k ≤ l.length ∧ i = .int .i64 k ∧ Below w.heap.size w wr ∧ Hid (∀ j, j < k → (l.getD j mv0).cut = false)) (fun i _ => l.length - (intOf i).toNat)
  case atStart => exact ⟨0, Nat.zero_le _, rfl, hB0, fun j h => absurd h (by omega)⟩
  case round =>
    obtain ⟨k, hk, rfl, hBr, hall⟩ := hrel
    by_cases hlt : k < l.length
    · obtain ⟨b5, o5, hA, hb5, hc5⟩ := mv_cells (HL.out.below hBr) (by omega)
      obtain ⟨c0, c1, c2⟩ := hc5 k hlt
      have HALL := Lib.hid (fun (hg : (l.getD k mv0).cut = false) j (hj : j < k + 1) => show (l.getD j mv0).cut = false by
        rcases Nat.lt_or_ge j k with h | h
        · exact hall.out j h
        · obtain rfl : j = k := by omega
          exact hg)
      have HH := Lib.hid (fun (hg : (l.getD k mv0).cut = true) => firstCut_hit l k hlt hall.out hg)
      clear hc5 hall hB0
      rw [hA]
      clear hA
      generalize l.getD k mv0 = mk at *
      obtain ⟨mo, ms, mc⟩ := mk
      simp only at c0 c1 c2 HALL HH
      cases mc
      · go_wp2_with (go_at_call 44; refine (isCut_any _ _ _ _).mono ?_; rintro e w1 ⟨rfl, hb1⟩)
        have hB1 := hBr.trans (hb1.mono hBr.size)
        go_roundw
        case rel => exact ⟨k + 1, by omega, by go_num, hB1, HALL.out (by first | rfl | trivial)⟩
        case measure => simp [intOf]; omega
      · go_wp2_with (go_at_call 44; refine (isCut_any _ _ _ _).mono ?_; rintro e w1 ⟨rfl, hb1⟩)
        have hB1 := hBr.trans (hb1.mono hBr.size)
        go_ret
        exact ⟨ret_int (HH.out (by first | rfl | trivial)).symm, hB1⟩
    · have : k = l.length := by omega
      subst this
      have HE := Lib.hid (firstCut_none l hall.out)
      clear hall
      go_wp2
      go_ret
      exact ⟨ret_int HE.out.symm, hBr⟩

theorem contains42_any (A : Option Addr) (c : Nat) (l : List Mv) (w : World) (hL : RowAt w A (mvCells l)) (hn : l.length ≤ 1000) :
    Calls Try.prog 42 #[.slice A l.length c, .func (.func 44) #[] #[]] w fun e w' => e = .returned (.bool (l.any (fun m => m.cut))) ∧ Below w.heap.size w w' := by
  go_enter Try.func42, Try.ntmps42
  go_wp2_with (go_at_call 65; refine (index65_any _ _ _ _ hL hn).mono ?_; rintro e w1 ⟨rfl, hb1⟩)
  go_ret
  exact ⟨ret_bool (firstCut_any l), hb1⟩

def bedIx (f : Flr) (ring sec _turn : Nat) : Nat := ring * f.S + sec
def runIx (f : Flr) (ring sec turn : Nat) : Nat := ring * f.S + runS f.S sec turn

set_option maxRecDepth 100000 in
set_option maxHeartbeats 4000000 in
theorem bedIx_any (b q : Nat) (f : Flr) (z : FLoc) (ring sec turn : Nat) (w : World) (hf : FlAt w b f z) (hok : f.Ok) (h1 : ring < f.R) (h2 : sec < f.S) (h3 : turn < f.S) (hq : Bk w q 65 #[.pointer (some ⟨b, 0, none⟩)]) :
    Calls Try.prog 20 #[stV ring sec turn, .pointer (some ⟨q, 0, none⟩)] w fun e w' => e = .returned (.int .i64 (bedIx f ring sec turn)) ∧ Below w.heap.size w w' := by
  obtain ⟨r0, r1, s0, s1, _, _, _, _, _, _⟩ := id hok
  have HE : Hid ((bedIx f ring sec turn : Int) = (ring : Int) * f.S + sec) := by simp [Hid, bedIx]
  obtain ⟨W, hW⟩ : ∃ W, w.alloc (.cells #[.int .i64 ring, .int .i64 sec, .int .i64 turn] 40) = W := ⟨_, rfl⟩
  have hbW : Below w.heap.size w W := by rw [← hW]; exact (Below.refl _ _).alloc (Nat.le_refl _) _
  have Y : Bk W w.heap.size 40 #[.int .i64 ring, .int .i64 sec, .int .i64 turn] := by rw [← hW]; exact bk_last rfl
  have x0 := (hf.below hbW).cS
  have xq := (hq.keep hbW).cell 0
  have y0 := Y.cell 0
  have y1 := Y.cell 1
  have y2 := Y.cell 2
  simp at y0 y1 y2 xq
  have HW := Lib.hid hW
  clear hf hW Y hq
  have hm := mul_bound (a := ring) (b := f.S) (m := 4) (n := 8) (by omega) (by omega) (by omega) (by omega)
  generalize f.S = S at *
  have hw1 := IntWalk.i64_in ((ring : Int) * S) (by omega)
  have hw2 := IntWalk.i64_in ((ring : Int) * S + sec) (by omega)
  clear hm
  unfold stV
  go_enter Try.func20, Try.ntmps20
  go_upto_region 1 with fail
  rw [HW.out]
  clear HW
  go_quiet (fail)
  go_wp2_with fail
  go_ret
  exact ⟨by rw [HE.out]; rfl, below_drewN hbW _⟩

set_option maxRecDepth 100000 in
set_option maxHeartbeats 4000000 in
theorem runIx_any (b q : Nat) (f : Flr) (z : FLoc) (ring sec turn : Nat) (w : World) (hf : FlAt w b f z) (hok : f.Ok) (h1 : ring < f.R) (h2 : sec < f.S) (h3 : turn < f.S) (hq : Bk w q 65 #[.pointer (some ⟨b, 0, none⟩)]) :
    Calls Try.prog 21 #[stV ring sec turn, .pointer (some ⟨q, 0, none⟩)] w fun e w' => e = .returned (.int .i64 (runIx f ring sec turn)) ∧ Below w.heap.size w w' := by
  obtain ⟨r0, r1, s0, s1, _, _, _, _, _, _⟩ := id hok
  have HE : Hid ((runIx f ring sec turn : Int) = (ring : Int) * f.S + runS f.S sec turn) := by simp [Hid, runIx]
  have hrs := runS_lt (S := f.S) (sec := sec) (turn := turn) (by omega)
  have hrv := runS_val (S := f.S) (sec := sec) (turn := turn) h3
  obtain ⟨W, hW⟩ : ∃ W, w.alloc (.cells #[.int .i64 ring, .int .i64 sec, .int .i64 turn] 40) = W := ⟨_, rfl⟩
  have hbW : Below w.heap.size w W := by rw [← hW]; exact (Below.refl _ _).alloc (Nat.le_refl _) _
  have Y : Bk W w.heap.size 40 #[.int .i64 ring, .int .i64 sec, .int .i64 turn] := by rw [← hW]; exact bk_last rfl
  have x0 := (hf.below hbW).cS
  have xq := (hq.keep hbW).cell 0
  have y0 := Y.cell 0
  have y1 := Y.cell 1
  have y2 := Y.cell 2
  simp at y0 y1 y2 xq
  have HR : Hid (∀ x : Ext W, Calls Try.prog 22 #[.pointer (some ⟨b, 0, none⟩), .int .i64 ((sec : Int) - turn)] x.w fun e w' => e = .returned (.int .i64 (runS f.S sec turn)) ∧ Below x.w.heap.size x.w w') := fun x => by
    rw [← hrv]
    exact round_any b f.S _ x.w (by omega) (by omega) ((hf.below hbW).below x.bel).cS (by omega)
  have HW := Lib.hid hW
  clear hf hW Y hq hrv
  have hm := mul_bound (a := ring) (b := f.S) (m := 4) (n := 8) (by omega) (by omega) (by omega) (by omega)
  generalize runS f.S sec turn = rs at *
  generalize f.S = S at *
  have hw1 := IntWalk.i64_in ((ring : Int) * S) (by omega)
  have hw2 := IntWalk.i64_in ((ring : Int) * S + rs) (by omega)
  have hw4 := IntWalk.i64_in ((sec : Int) - turn) (by omega)
  clear hm
  unfold stV
  go_enter Try.func21, Try.ntmps21
  go_upto_region 1 with fail
  rw [HW.out]
  clear HW
  replace x0 := fun x : Ext W => keepc x.bel x0
  replace xq := fun x : Ext W => keepc x.bel xq
  replace y0 := fun x : Ext W => keepc x.bel y0
  replace y1 := fun x : Ext W => keepc x.bel y1
  replace y2 := fun x : Ext W => keepc x.bel y2
  refine wp_region_ext (by kernel_rfl) (by kernel_rfl) ?_
  repeat (go_big_quiet_step ((go_at_call 22; exact ext_of (HR.out _))))
  refine wpQuiet_nil ?_
  rintro _ ⟨y, rfl⟩
  clear x0 xq y0 y1 y2 HR
  have hb9 := y.bel
  generalize y.w = w9 at hb9 ⊢
  go_wp2_with fail
  go_ret
  exact ⟨by rw [HE.out]; rfl, hbW.trans (hb9.mono hbW.size)⟩

end Go.Proofs.Ytkikjmkpndmdcaa
