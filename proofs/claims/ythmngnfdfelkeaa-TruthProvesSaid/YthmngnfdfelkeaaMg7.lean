/-
  Plain laws of leads: all of them in their order.
  What is proved: the contract of the iterator over all leads, for every loop body that keeps its row; and of slices.Clone.
-/
import Derived.Test.YthmngnfdfelkeaaMg6
import Derived.RangeFuncNested
import Derived.RangeFuncBound
import Derived.RangeFuncCalls
import Derived.RangeFuncLeaves
import Derived.Shelf.Abstract
import Derived.Shelf.RegionOpen
import Derived.OwnWalkIn
import Derived.TacticsInMore
import Derived.LoopNIn
import Derived.LoopIn
import Derived.Sort.QuietIn
import Derived.Maps.AppendAt
namespace Go.Proofs.Ythmngnfdfelkeaa

/-- How many leads: the product of what each pocket holds and 1. -/
def prodM : List Nat → Nat
  | [] => 1
  | m :: ms => (m + 1) * prodM ms
theorem prodM_pos : ∀ ms, 1 ≤ prodM ms
  | [] => Nat.le_refl _
  | m :: ms => Nat.mul_le_mul (Nat.le_add_left 1 m) (prodM_pos ms)

/-- The lead number k. -/
def leadAt : List Nat → Nat → List Nat
  | [], _ => []
  | _ :: ms, k => k / prodM ms :: leadAt ms (k % prodM ms)
theorem leadAt_len : ∀ ms k, (leadAt ms k).length = ms.length
  | [], _ => rfl
  | _ :: ms, k => by simp [leadAt, leadAt_len ms]
theorem leadAt_zero : ∀ ms, leadAt ms 0 = List.replicate ms.length 0
  | [] => rfl
  | _ :: ms => by simp [leadAt, leadAt_zero ms, List.replicate_succ]

/-- Its number. -/
def rankL : List Nat → List Nat → Nat
  | _ :: ms, d :: l => d * prodM ms + rankL ms l
  | _, _ => 0

/-- Each number is at most what its pocket holds. -/
def inM : List Nat → List Nat → Prop
  | [], [] => True
  | m :: ms, d :: l => d ≤ m ∧ inM ms l
  | _, _ => False
theorem inM_len : ∀ {ms l}, inM ms l → l.length = ms.length
  | [], [], _ => rfl
  | _ :: _, _ :: _, h => by simp [inM_len h.2]
theorem rank_lt : ∀ {ms l}, inM ms l → rankL ms l < prodM ms
  | [], [], _ => by simp [rankL, prodM]
  | m :: ms, d :: l, h => by
    have := rank_lt h.2
    simp only [rankL, prodM]
    have e : (m + 1) * prodM ms = m * prodM ms + prodM ms := by rw [Nat.add_mul, Nat.one_mul]
    have := Nat.mul_le_mul_right (prodM ms) h.1
    omega
theorem leadAt_rank : ∀ {ms l}, inM ms l → leadAt ms (rankL ms l) = l
  | [], [], _ => rfl
  | m :: ms, d :: l, h => by
    have h1 := rank_lt h.2
    have hp := prodM_pos ms
    simp only [rankL, leadAt]
    rw [Nat.mul_comm, Nat.mul_add_div (by omega), Nat.div_eq_of_lt h1, Nat.mul_add_mod, Nat.mod_eq_of_lt h1, leadAt_rank h.2]
    simp
theorem leadAt_in : ∀ {ms : List Nat} {k : Nat}, k < prodM ms → inM ms (leadAt ms k)
  | [], _, _ => trivial
  | m :: ms, k, h => by
    have hp := prodM_pos ms
    simp only [prodM] at h
    refine ⟨?_, leadAt_in (Nat.mod_lt _ (by omega))⟩
    have : k / prodM ms < m + 1 := Nat.div_lt_of_lt_mul (by rwa [Nat.mul_comm])
    omega

/-- The lead behind one: none behind the last. -/
def nextL : List Nat → List Nat → Option (List Nat)
  | m :: ms, d :: l => match nextL ms l with
    | some l' => some (d :: l')
    | none => if d < m then some ((d + 1) :: List.replicate l.length 0) else none
  | _, _ => none

theorem nextL_at : ∀ (ms : List Nat) (k : Nat), k < prodM ms → nextL ms (leadAt ms k) = if k + 1 < prodM ms then some (leadAt ms (k + 1)) else none
  | [], k, h => by
    have : ¬ k + 1 < prodM [] := by simp only [prodM] at h ⊢; omega
    rw [if_neg this]; rfl
  | m :: ms, k, h => by
    have hp := prodM_pos ms
    have hr := Nat.mod_lt k (show prodM ms > 0 by omega)
    have ih := nextL_at ms (k % prodM ms) hr
    have hk := Nat.div_add_mod k (prodM ms)
    rw [show prodM (m :: ms) = (m + 1) * prodM ms from rfl] at h ⊢
    simp only [leadAt, nextL, ih]
    have e : (m + 1) * prodM ms = prodM ms * m + prodM ms := by rw [Nat.add_mul, Nat.one_mul, Nat.mul_comm]
    by_cases h1 : k % prodM ms + 1 < prodM ms
    · rw [if_pos h1]
      have hq : (k + 1) / prodM ms = k / prodM ms ∧ (k + 1) % prodM ms = k % prodM ms + 1 := by
        have : k + 1 = prodM ms * (k / prodM ms) + (k % prodM ms + 1) := by omega
        rw [this, Nat.mul_add_div (by omega), Nat.div_eq_of_lt h1, Nat.mul_add_mod, Nat.mod_eq_of_lt h1]
        simp
      have hd : k / prodM ms ≤ m := by
        have : k / prodM ms < m + 1 := Nat.div_lt_of_lt_mul (by rwa [Nat.mul_comm])
        omega
      have hk2 : k + 1 < (m + 1) * prodM ms := by
        have := Nat.mul_le_mul_left (prodM ms) hd
        omega
      rw [if_pos hk2, hq.1, hq.2]
    · rw [if_neg h1]
      have h2 : k % prodM ms + 1 = prodM ms := by omega
      have hq : (k + 1) / prodM ms = k / prodM ms + 1 ∧ (k + 1) % prodM ms = 0 := by
        have : k + 1 = prodM ms * (k / prodM ms + 1) := by rw [Nat.mul_add]; omega
        rw [this, Nat.mul_div_cancel_left _ (by omega), Nat.mul_mod_right]
        simp
      by_cases h3 : k / prodM ms < m
      · have hk2 : k + 1 < (m + 1) * prodM ms := by
          have := Nat.mul_le_mul_left (prodM ms) (show k / prodM ms + 1 ≤ m from h3)
          rw [Nat.mul_add] at this
          omega
        rw [if_pos h3, if_pos hk2, hq.1, hq.2, leadAt_zero, leadAt_len]
      · have hd : k / prodM ms = m := by
          have : k / prodM ms < m + 1 := Nat.div_lt_of_lt_mul (by rwa [Nat.mul_comm])
          omega
        have hk2 : ¬ k + 1 < (m + 1) * prodM ms := by rw [hd] at hk; omega
        simp only [hd, Nat.lt_irrefl, if_false, hk2]

theorem nextL_last : ∀ (ms l : List Nat), l.length = ms.length → (∀ t, t < l.length → l.getD t 0 = ms.getD t 0) → nextL ms l = none
  | [], _, _, _ => rfl
  | m :: ms, [], hl, _ => rfl
  | m :: ms, d :: l, hl, h => by
    have h0 := h 0 (by simp)
    simp at h0
    have := nextL_last ms l (by simpa using hl) (fun t ht => by have := h (t + 1) (by simpa using ht); simpa using this)
    simp [nextL, this, h0]

/-- The numbers up to i as they are, then zeros. -/
theorem nextL_scan : ∀ (ms l : List Nat) (i : Nat), l.length = ms.length → i < l.length → (∀ t, i < t → t < l.length → l.getD t 0 = ms.getD t 0) → l.getD i 0 < ms.getD i 0 →
    nextL ms l = some (l.take i ++ (l.getD i 0 + 1) :: List.replicate (l.length - i - 1) 0)
  | m :: ms, d :: l, 0, hl, _, h, hd => by
    have hn : nextL ms l = none := nextL_last ms l (by simpa using hl) (fun t ht => by have := h (t + 1) (by omega) (by simpa using ht); simpa using this)
    simp at hd
    simp [nextL, hn, hd]
  | m :: ms, d :: l, i + 1, hl, hi, h, hd => by
    have := nextL_scan ms l i (by simpa using hl) (by simpa using hi) (fun t ht ht2 => by
      have := h (t + 1) (by omega) (by simpa using ht2)
      simpa using this) (by simpa using hd)
    simp [nextL, this]
  | [], l, i, hl, hi, _, _ => by simp at hl; subst hl; simp at hi
  | m :: ms, [], i, hl, hi, _, _ => by simp at hi

end Go.Proofs.Ythmngnfdfelkeaa
namespace Go.Proofs.Ythmngnfdfelkeaa
open Go.RowKit Go.Shelf
attribute [local go_sem] Oper.semAt_some
attribute [local go_sem ↓] max_int min_int

theorem intInfo : (Try.prog.info? 3).map (fun i => (i.zero, i.size, i.bytes)) = some (some (.int .i64 0), 1, 8) := by kernel_rfl

/-- What the pockets hold. -/
def mosts (s : Stn) : List Nat := s.pockets.map fun p => p.2.toNat
theorem mosts_len (s : Stn) : (mosts s).length = s.pockets.length := by simp [mosts]
theorem mosts_get {s : Stn} (h : s.ok = true) {i : Nat} (hi : i < s.pockets.length) : (s.pockets.getD i ((0, 0), 0)).2 = (((mosts s).getD i 0 : Nat) : Int) := by
  obtain ⟨_, _, _, _, _, _, _, _, hp⟩ := stn_ok h
  obtain ⟨_, p1, _⟩ := hp _ (getD_mem ((0, 0), 0) hi)
  rw [getD_get _ _ hi] at p1 ⊢
  rw [getD_get _ _ (by rw [mosts_len]; exact hi)]
  simp only [mosts, List.getElem_map]
  omega

/-- A list of Nats as Ints. -/
def toI (l : List Nat) : List Int := l.map fun n : Nat => (n : Int)
theorem toI_len (l : List Nat) : (toI l).length = l.length := by simp [toI]
theorem toI_get (l : List Nat) (i : Nat) : (toI l).getD i 0 = ((l.getD i 0 : Nat) : Int) := by
  simp only [toI, List.getD_eq_getElem?_getD, List.getElem?_map]
  cases l[i]? <;> simp

/-- A row of its own at block G keeps where the block lies as it lay. -/
theorem own_same {w w' : World} {base G : Nat} {e : TypeId} {size n c : Nat} {xs : List Value} (h : w.ownsRow base e size (.slice (some ⟨G, 0, none⟩) n c) n xs) (_hz : w.heap.size ≤ w'.heap.size) (hk : w'.heap[G]? = w.heap[G]?) : w'.ownsRow base e size (.slice (some ⟨G, 0, none⟩) n c) n xs := by
  refine ⟨h.1, ?_⟩
  rcases h.2 with ⟨hv, h0⟩ | ⟨g, cap, cur, hv, hb, hg, hrest⟩
  · exact .inl ⟨hv, h0⟩
  · refine .inr ⟨g, cap, cur, hv, hb, ?_, hrest⟩
    injection hv with hv
    injection hv with hv
    injection hv with hv
    subst hv
    rw [hk]; exact hg

theorem grownBy_set (W : World) (b o : Nat) (v : Value) : W.grownBy (W.setCell ⟨b, o, none⟩ v) (some b) :=
  ⟨rfl, rfl, rfl, by simp, fun k _ hk => Below.heap_setCell W ⟨b, o, none⟩ v k (fun e => hk (by rw [e]))⟩

theorem inM_get : ∀ {ms l : List Nat}, inM ms l → ∀ i, i < l.length → l.getD i 0 ≤ ms.getD i 0
  | [], [], _, i, hi => by simp at hi
  | m :: ms, d :: l, h, 0, _ => by simpa using h.1
  | m :: ms, d :: l, h, i + 1, hi => by simpa using inM_get h.2 i (by simpa using hi)

/-- What a loop body keeps: the iterator's box and its row. -/
def KeepB (BX G : Nat) (W W' : World) : Prop := W.heap.size ≤ W'.heap.size ∧ W'.heap[BX]? = W.heap[BX]? ∧ W'.heap[G]? = W.heap[G]?

/-- The number of the lead that lies in block G. -/
def rankAt (ms : List Nat) (G : Nat) (W : World) : Nat := rankL ms ((List.range ms.length).map fun j => (intOf ((W.cell? ⟨G, j, none⟩).getD (.int .i64 0))).toNat)

theorem rankAt_own {ms : List Nat} {G base c k : Nat} {W : World} (hk : k < prodM ms) (h : W.ownsRow base 3 1 (.slice (some ⟨G, 0, none⟩) ms.length c) ms.length (intCells (toI (leadAt ms k)))) : rankAt ms G W = k := by
  have e : ((List.range ms.length).map fun j => (intOf ((W.cell? ⟨G, j, none⟩).getD (.int .i64 0))).toNat) = leadAt ms k := by
    apply List.ext_getElem
    · simp [leadAt_len]
    · intro j h1 h2
      have hj : j < ms.length := by simpa using h1
      rw [List.getElem_map, List.getElem_range, h.cellAt j (by omega)]
      simp [intCells, toI, h2, intOf]
  unfold rankAt
  rw [e]
  have hr := leadAt_rank (leadAt_in hk)
  -- ranks of leads are one-to-one
  have key : ∀ (ms : List Nat) (k : Nat), k < prodM ms → rankL ms (leadAt ms k) = k := by
    intro ms
    induction ms with
    | nil => intro k hk; simp only [prodM] at hk; simp [rankL]; omega
    | cons m ms ih =>
      intro k hk
      have hp := prodM_pos ms
      simp only [leadAt, rankL]
      rw [ih _ (Nat.mod_lt _ (by omega)), Nat.mul_comm]
      exact Nat.div_add_mod _ _
  exact key ms k hk

theorem set_zero_scan (l : List Int) (i n : Nat) (hi : i < l.length) (hn : i + 1 + n = l.length) : (intCells (l.take (i + 1) ++ List.replicate n 0)).set i (.int .i64 0) = intCells (l.take i ++ List.replicate (n + 1) 0) := by
  have h1 : l.take (i + 1) = l.take i ++ [l[i]] := by rw [List.take_add_one, List.getElem?_eq_getElem hi]; rfl
  rw [h1, List.append_assoc]
  unfold intCells
  rw [List.map_append, List.map_append, List.set_append_right _ _ (by simp; omega)]
  have hl : i - (List.map (fun x => Value.int IntKind.i64 x) (List.take i l)).length = 0 := by simp; omega
  rw [hl]
  simp [List.replicate_succ]

theorem set_next_scan (l : List Int) (i n : Nat) (x : Int) (hi : i < l.length) : (intCells (l.take (i + 1) ++ List.replicate n 0)).set i (.int .i64 x) = intCells (l.take i ++ x :: List.replicate n 0) := by
  have h1 : l.take (i + 1) = l.take i ++ [l[i]] := by rw [List.take_add_one, List.getElem?_eq_getElem hi]; rfl
  rw [h1, List.append_assoc]
  unfold intCells
  rw [List.map_append, List.map_append, List.set_append_right _ _ (by simp; omega)]
  have hl : i - (List.map (fun x => Value.int IntKind.i64 x) (List.take i l)).length = 0 := by simp; omega
  rw [hl]
  simp

theorem toI_take (l : List Nat) (i : Nat) : toI (l.take i) = (toI l).take i := by simp [toI, List.map_take]
theorem toI_app (a b : List Nat) : toI (a ++ b) = toI a ++ toI b := by simp [toI]
theorem toI_zeros (n : Nat) : toI (List.replicate n 0) = List.replicate n 0 := by simp [toI]

set_option maxRecDepth 100000 in
set_option maxHeartbeats 4000000 in
theorem all1_in (n : Nat) (l BX g : Nat) (s : Stn) (z : Loc) (m : Array Value) (w0 W : World) (hg : g < w0.heap.size) (R : Bk w0 g 98 (s.cells z ++ m)) (hs : StAt w0 s z) (hok : s.ok = true) (hbx : Bk W BX 82 #[.pointer (some ⟨g, 0, none⟩)]) (hB0 : Below w0.heap.size w0 W)
    (J : Nat → World → Prop) (hJB : ∀ k W1, J k W1 → Below w0.heap.size w0 W1)
    (hJ : ∀ k W1 W2 row, J k W1 → W1.grownBy W2 row → (∀ r, row = some r → r = W.heap.size) → J k W2)
    (hY : ∀ k W1, J k W1 → k < prodM (mosts s) → W.heap.size < W1.heap.size → W1.ownsRow W.heap.size 3 1 (.slice (some ⟨W.heap.size, 0, none⟩) s.pockets.length s.pockets.length) s.pockets.length (intCells (toI (leadAt (mosts s) k))) →
      YieldAt Fence.wide (n - 1) Try.prog l #[.slice (some ⟨W.heap.size, 0, none⟩) s.pockets.length s.pockets.length] W1 fun e W' => e = .returned (.bool true) ∧ J (k + 1) W' ∧ KeepB BX W.heap.size W1 W')
    (h0 : J 0 W) :
    CallsIn Fence.wide n Try.prog 130 #[.func (.yield l) #[] #[], .pointer (some ⟨BX, 0, none⟩)] W fun e W' => (∃ v, e = .returned v) ∧ J (prodM (mosts s)) W' := by
  obtain ⟨i0, hi0, hz0, hz1, hz2⟩ := info_parts intInfo
  have hpl := (stn_ok hok).2.2.2.2.1
  have hml := mosts_len s
  have hmg := fun i hi => mosts_get (i := i) hok hi
  have hbxl := hbx.lt
  have bb2 : i0.bytes * s.pockets.length ≤ 281474976710656 := by rw [hz2]; omega
  have bb3 : s.pockets.length ≤ maxLen := by unfold maxLen; omega
  have RW := R.below hB0 hg
  obtain ⟨_, _, _, _, _, _, x6, _⟩ := stn_cell RW
  have b0 := hbx.cell 0
  simp at b0
  refine callsIn_of_wp Try.func130 rfl trivial ?_ rfl
  simp only [Try.ntmps130, List.size_toArray, List.length_cons, List.length_nil, Nat.reduceAdd, Nat.reduceSub, Array.replicate_succ, Array.replicate_zero, List.push_toArray, List.append_toArray, List.nil_append, List.cons_append]
  refine wpIn_wide.2 ?_
  go_wp2_with (at_make; refine (wpList_make_full _ rfl _ _ 22 rfl W.heap.size 3 i0 _ 1 Try.underlying22 hi0 hz0 hz1 .i64 .i64 _ _ s.pockets.length rfl rfl rfl rfl bb2 bb3 (Nat.le_refl _) ?_); intro w1 hown hgr)
  have hlead0 : (madeCells (Value.int IntKind.i64 0).cells (s.pockets.length * 1)).toList = intCells (toI (leadAt (mosts s) 0)) := by
    rw [Nat.mul_one, leadAt_zero, toI_zeros, hml]
    show (madeCells #[Value.int IntKind.i64 0] s.pockets.length).toList = _
    rw [toList_madeCells_one]
    simp [intCells]
  rw [hlead0] at hown
  have hJ0 : J 0 w1 := hJ 0 W w1 none h0 hgr (fun r e => by cases e)
  have hbx1 : Bk w1 BX 82 #[.pointer (some ⟨g, 0, none⟩)] := hbx.grown hgr (by simp)
  clear hlead0 hgr x6 b0 RW bb2 bb3 h0 hbx
  refine (wpIn_wide (n := n)).1 ?_
  gi_loopw [4] (fun _ wr => ∃ k : Nat, k < prodM (mosts s) ∧ wr.ownsRow W.heap.size 3 1 (.slice (some ⟨W.heap.size, 0, none⟩) s.pockets.length s.pockets.length) s.pockets.length (intCells (toI (leadAt (mosts s) k))) ∧ J k wr ∧ Bk wr BX 82 #[.pointer (some ⟨g, 0, none⟩)])
    (fun _ wr => prodM (mosts s) - rankAt (mosts s) W.heap.size wr)
  case atStart => exact ⟨0, by have := prodM_pos (mosts s); omega, hown, hJ0, hbx1⟩
  case round =>
    clear hown hJ0 hbx1
    obtain ⟨k, hk, hown, hJk, hbx⟩ := hrel
    have hrk : rankAt (mosts s) W.heap.size wr = k := rankAt_own (c := s.pockets.length) hk (by rw [hml]; exact hown)
    have hlt := (hown.lt _ rfl).2
    obtain ⟨fn, tmps, assign, body, hy, hR⟩ := hY k wr hJk hk hlt hown
    have HK := Lib.hid (And.intro hk hrk)
    clear hJk hk hrk
    gi_wp2
    refine ⟨fun h => (by simp [Fence.wide] at h), hR.mono ?_⟩
    rintro e W3 ⟨rfl, hJ3, hz3, hk3, hg3⟩
    have hown3 := own_same hown hz3 hg3
    have hbx3 : Bk W3 BX 82 #[.pointer (some ⟨g, 0, none⟩)] := hk3.trans hbx
    have hlt3 : W.heap.size < W3.heap.size := by omega
    clear hown hbx hR hy hz3 hk3 hg3 hlt
    have hst : intCells (toI (leadAt (mosts s) k)) = intCells ((toI (leadAt (mosts s) k)).take s.pockets.length ++ List.replicate (s.pockets.length - s.pockets.length) 0) := by
      rw [List.take_of_length_le (by rw [toI_len, leadAt_len, hml]; omega)]
      simp
    rw [hst] at hown3
    clear hst
    have hll : (leadAt (mosts s) k).length = s.pockets.length := by rw [leadAt_len, hml]
    gi_wp2
    gi_loopw [4] (fun i wr => ∃ j : Nat, j ≤ s.pockets.length ∧ i = .int .i64 ((j : Int) - 1) ∧ wr.ownsRow W.heap.size 3 1 (.slice (some ⟨W.heap.size, 0, none⟩) s.pockets.length s.pockets.length) s.pockets.length (intCells ((toI (leadAt (mosts s) k)).take j ++ List.replicate (s.pockets.length - j) 0)) ∧
      Hid (∀ t, j ≤ t → t < s.pockets.length → (leadAt (mosts s) k).getD t 0 = (mosts s).getD t 0) ∧ J (k + 1) wr ∧ Bk wr BX 82 #[.pointer (some ⟨g, 0, none⟩)]) (fun i _ => (intOf i + 1).toNat)
    case atStart => exact ⟨s.pockets.length, Nat.le_refl _, rfl, hown3, fun t h1 h2 => by omega, hJ3, hbx3⟩
    case round =>
      clear hown3 hJ3 hbx3 hlt3
      obtain ⟨j, hj, rfl, hown, hall, hJk, hbx⟩ := hrel
      have hlt := (hown.lt _ rfl).2
      have b0 := hbx.cell 0
      simp at b0
      rcases Nat.eq_zero_or_pos j with h0 | h0
      · subst h0
        have hend : k + 1 = prodM (mosts s) := by
          have h1 := nextL_at (mosts s) k HK.out.1
          rw [nextL_last (mosts s) (leadAt (mosts s) k) (leadAt_len _ _) (fun t ht => hall.out t (Nat.zero_le _) (by omega))] at h1
          by_cases h2 : k + 1 < prodM (mosts s)
          · rw [if_pos h2] at h1; cases h1
          · have := HK.out.1; omega
        rw [hend] at hJk
        have HJ := Lib.hid hJk
        clear hJk hall hend hown hbx
        gi_wp2
        gi_quiet (fail)
        gi_wp2
        refine bodyPost_ret (results_none rfl _ _ _) rfl ?_
        exact ⟨⟨_, rfl⟩, hJ _ wr (wr.drewN nq) none HJ.out ⟨rfl, rfl, rfl, Nat.le_refl _, fun _ _ _ => rfl⟩ (fun r e => by cases e)⟩
      · obtain ⟨i, rfl⟩ : ∃ i, j = i + 1 := ⟨j - 1, by omega⟩
        have hil : i < (toI (leadAt (mosts s) k)).length := by rw [toI_len]; omega
        have hcast : (((i + 1 : Nat) : Int) - 1) = (i : Int) := by omega
        rw [hcast]
        have hiI : (i : Int) < s.pockets.length := by omega
        have hc := hown.cellAt i (by omega)
        have hci : (intCells ((toI (leadAt (mosts s) k)).take (i + 1) ++ List.replicate (s.pockets.length - (i + 1)) 0))[i]? = some (.int .i64 (((leadAt (mosts s) k).getD i 0 : Nat) : Int)) := by
          unfold intCells
          rw [List.getElem?_map, List.getElem?_append_left (by simp; omega), List.getElem?_take, if_pos (by omega), List.getElem?_eq_getElem hil, ← toI_get, getD_get _ _ hil]
          rfl
        rw [hci] at hc
        clear hci
        have hB := hJB _ _ hJk
        have Rr := R.below hB hg
        obtain ⟨_, _, _, _, _, _, x6, _⟩ := stn_cell Rr
        obtain ⟨b, off, hA, hb, hc2⟩ := (hs.below hB).pockets.pk (by omega)
        obtain ⟨_, _, c2⟩ := hc2 i (by omega)
        rw [hmg i (by omega)] at c2
        rw [hA] at x6
        have hbG : b ≠ W.heap.size := by
          intro e
          have := (hs.pockets.pk (by omega))
          obtain ⟨b', off', hA', hb', _⟩ := this
          rw [hA] at hA'
          injection hA' with hA'
          injection hA' with h1 _
          have := hB0.size
          omega
        clear hA hc2 hB Rr
        by_cases he : (leadAt (mosts s) k).getD i 0 = (mosts s).getD i 0
        · have hall' : Hid (∀ t, i ≤ t → t < s.pockets.length → (leadAt (mosts s) k).getD t 0 = (mosts s).getD t 0) := fun t h1 h2 => by
            rcases Nat.lt_or_ge i t with h | h
            · exact hall.out t h h2
            · have : t = i := by omega
              subst this
              exact he
          have fz := hown.frozenAt i
          have HO := Lib.hid hown
          have HJ := Lib.hid hJk
          have HX := Lib.hid hbx
          clear hall hJk hown hbx
          rw [he] at hc
          clear he
          generalize (mosts s).getD i 0 = v at *
          gi_wp2
          gi_quiet (fail)
          gi_wp2
          have hnx := (show (wr.drewN nq).ownsRow W.heap.size 3 1 _ _ _ from HO.out).stored i (.int .i64 0)
          rw [set_zero_scan _ i _ hil (by rw [toI_len]; omega), show s.pockets.length - (i + 1) + 1 = s.pockets.length - i by omega] at hnx
          refine ⟨⟨i, by omega, rfl, hnx.1, hall', ?_, ?_⟩, by first | (simp [intOf]; done) | (simp [intOf]; omega)⟩
          · exact hJ _ (wr.drewN nq) _ (some W.heap.size) (hJ _ wr (wr.drewN nq) none HJ.out ⟨rfl, rfl, rfl, Nat.le_refl _, fun _ _ _ => rfl⟩ (fun r e => by cases e)) (grownBy_set _ _ _ _) (fun r e => by injection e with e; exact e.symm)
          · exact (show Bk (wr.drewN nq) BX 82 _ from HX.out).far (p := ⟨W.heap.size, i, none⟩) (by simp; omega) _
        · have hle := inM_get (leadAt_in HK.out.1) i (by omega)
          have hlt2 : (leadAt (mosts s) k).getD i 0 < (mosts s).getD i 0 := by omega
          have hm255 : (mosts s).getD i 0 ≤ 255 := by
            obtain ⟨_, _, _, _, _, _, _, _, hp⟩ := stn_ok hok
            have := (hp _ (getD_mem ((0, 0), 0) (show i < s.pockets.length by omega))).2.2
            rw [hmg i (by omega)] at this
            omega
          have hnx := nextL_at (mosts s) k HK.out.1
          rw [nextL_scan (mosts s) (leadAt (mosts s) k) i (leadAt_len _ _) (by omega) (fun t h1 h2 => hall.out t h1 (by omega)) hlt2] at hnx
          have hk1 : k + 1 < prodM (mosts s) := by
            by_cases h2 : k + 1 < prodM (mosts s)
            · exact h2
            · rw [if_neg h2] at hnx; cases hnx
          rw [if_pos hk1] at hnx
          injection hnx with hnx
          have hnx2 : (toI (leadAt (mosts s) k)).take i ++ ((((leadAt (mosts s) k).getD i 0 : Nat) : Int) + 1) :: List.replicate (s.pockets.length - (i + 1)) 0 = toI (leadAt (mosts s) (k + 1)) := by
            rw [← hnx, toI_app, toI_take, hll, show s.pockets.length - i - 1 = s.pockets.length - (i + 1) by omega]
            simp [toI]
          have fz := hown.frozenAt i
          have HO := Lib.hid hown
          have HJ := Lib.hid hJk
          have HX := Lib.hid hbx
          have HN := Lib.hid hnx2
          have HK1 := Lib.hid hk1
          clear hall hJk hown hbx hnx hnx2 hk1 hle
          generalize hlv : (leadAt (mosts s) k).getD i 0 = u at *
          generalize (mosts s).getD i 0 = v at *
          have hne : ((u : Int) == (v : Int)) = false := by simp; omega
          clear hlv he
          gi_wp2
          gi_quiet (fail)
          gi_wp2
          have hnx := (show (wr.drewN nq).ownsRow W.heap.size 3 1 _ _ _ from HO.out).stored i (.int .i64 ((u : Int) + 1))
          rw [set_next_scan _ i _ _ hil, HN.out] at hnx
          refine ⟨⟨k + 1, HK1.out, hnx.1, ?_, ?_⟩, ?_⟩
          · exact hJ _ (wr.drewN nq) _ (some W.heap.size) (hJ _ wr (wr.drewN nq) none HJ.out ⟨rfl, rfl, rfl, Nat.le_refl _, fun _ _ _ => rfl⟩ (fun r e => by cases e)) (grownBy_set _ _ _ _) (fun r e => by injection e with e; exact e.symm)
          · exact (show Bk (wr.drewN nq) BX 82 _ from HX.out).far (p := ⟨W.heap.size, i, none⟩) (by simp; omega) _
          · rw [rankAt_own (c := s.pockets.length) HK1.out (by rw [hml]; exact hnx.1), HK.out.2]
            have := HK1.out
            omega

end Go.Proofs.Ythmngnfdfelkeaa
