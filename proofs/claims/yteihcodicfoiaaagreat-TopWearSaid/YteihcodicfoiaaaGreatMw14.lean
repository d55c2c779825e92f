/-
  A base as data, and in memory.
  What is proved: the contracts of fewLeads and Few.
  What is proved: the contract of ends, from all entries; Free of a valid pair.
  What is proved: the contract of open at any pair, and of Free.
-/
import Derived.Test.YteihcodicfoiaaaGreatMw5
import Derived.Test.YteihcodicfoiaaaGreatEachMw
import Derived.Test.YteihcodicfoiaaaGreatGRatioMw
import Derived.Test.YteihcodicfoiaaaGreatMw7
import Derived.Test.YteihcodicfoiaaaGreatMw12
namespace Go.Proofs.YteihcodicfoiaaaGreat
open Go.RowKit

/-- A slice's address and its capacity. -/
abbrev Sl := Option Addr × Nat
/-- What a base says. -/
structure BaseC where
  bed : Fac
  run : Fac
  drive : List (List Mv)
  lift : Int
  top : Int
  grades : List Int
  slo : Int
  shi : Int
  s0 : List (Int × Int)
  s1 : List (Int × Int)
  a0 : List (Int × Int)
  a1 : List (Int × Int)
  dlo : Int
  dhi : Int
  wide : Int
  caps : List Int
  reach : List (List Int)
  compass : List (Int × Int)
  pockets : List (Int × Int × Int)
  tol : Int
  meshes : List Mesh
  houses : Int
/-- Where its lists lie. -/
structure BaseL where
  bed : Sl
  run : Sl
  drive : Sl
  rows : List Sl
  grades : Sl
  s0 : Sl
  s1 : Sl
  a0 : Sl
  a1 : Sl
  caps : Sl
  reach : Sl
  rrows : List Sl
  compass : Sl
  pockets : Sl
  meshes : Sl
def BaseC.arr (b : BaseC) (z : BaseL) : Array Value :=
  #[.int .i64 b.bed.eye, .int .i64 b.bed.rings, .int .i64 b.bed.sec, .slice z.bed.1 b.bed.kinds.length z.bed.2,
    .int .i64 b.run.eye, .int .i64 b.run.rings, .int .i64 b.run.sec, .slice z.run.1 b.run.kinds.length z.run.2,
    .slice z.drive.1 b.drive.length z.drive.2,
    .int .i64 b.lift, .int .i64 b.top, .slice z.grades.1 b.grades.length z.grades.2, .int .i64 b.slo, .int .i64 b.shi,
    .slice z.s0.1 b.s0.length z.s0.2, .slice z.s1.1 b.s1.length z.s1.2, .slice z.a0.1 b.a0.length z.a0.2, .slice z.a1.1 b.a1.length z.a1.2,
    .int .i64 b.dlo, .int .i64 b.dhi, .int .i64 b.wide, .slice z.caps.1 b.caps.length z.caps.2, .slice z.reach.1 b.reach.length z.reach.2,
    .slice z.compass.1 b.compass.length z.compass.2, .slice z.pockets.1 b.pockets.length z.pockets.2, .int .i64 b.tol,
    .slice z.meshes.1 b.meshes.length z.meshes.2, .int .i64 b.houses]
def rowV {α : Type} (rows : List Sl) (ls : List (List α)) (i : Nat) : Value := .slice (rows.getD i (none, 0)).1 (ls.getD i []).length (rows.getD i (none, 0)).2
def pocketCells (l : List (Int × Int × Int)) : List Value := l.flatMap fun x => [.int .i64 x.1, .int .i64 x.2.1, .int .i64 x.2.2]
/-- A base in memory. -/
structure BaseAt (w : World) (b : BaseC) (z : BaseL) : Prop where
  bed : RowAt w z.bed.1 (intCells b.bed.kinds)
  run : RowAt w z.run.1 (intCells b.run.kinds)
  drive : RowAt w z.drive.1 ((List.range b.drive.length).map (rowV z.rows b.drive))
  rows : ∀ i, i < b.drive.length → RowAt w (z.rows.getD i (none, 0)).1 (mvCells (b.drive.getD i []))
  grades : RowAt w z.grades.1 (intCells b.grades)
  s0 : RowAt w z.s0.1 (spanCells b.s0)
  s1 : RowAt w z.s1.1 (spanCells b.s1)
  a0 : RowAt w z.a0.1 (spanCells b.a0)
  a1 : RowAt w z.a1.1 (spanCells b.a1)
  caps : RowAt w z.caps.1 (intCells b.caps)
  reach : RowAt w z.reach.1 ((List.range b.reach.length).map (rowV z.rrows b.reach))
  rrows : ∀ i, i < b.reach.length → RowAt w (z.rrows.getD i (none, 0)).1 (intCells (b.reach.getD i []))
  compass : RowAt w z.compass.1 (spanCells b.compass)
  pockets : RowAt w z.pockets.1 (pocketCells b.pockets)
  meshes : RowAt w z.meshes.1 (meshCells b.meshes)
theorem BaseAt.below {w w' : World} {b : BaseC} {z : BaseL} (h : BaseAt w b z) (hb : Below w.heap.size w w') : BaseAt w' b z :=
  ⟨h.bed.below hb, h.run.below hb, h.drive.below hb, fun i hi => (h.rows i hi).below hb, h.grades.below hb, h.s0.below hb, h.s1.below hb, h.a0.below hb, h.a1.below hb, h.caps.below hb, h.reach.below hb,
   fun i hi => (h.rrows i hi).below hb, h.compass.below hb, h.pockets.below hb, h.meshes.below hb⟩
theorem row_cell {w : World} {A : Option Addr} {n : Nat} {f : Nat → Value} (h : RowAt w A ((List.range n).map f)) (h0 : 0 < n) : ∃ b off, A = some ⟨b, off, none⟩ ∧ b < w.heap.size ∧ ∀ k, k < n → w.cell? ⟨b, off + k, none⟩ = some (f k) := by
  obtain ⟨b, off, h1, h2, h3⟩ := h (by simpa using h0)
  exact ⟨b, off, h1, h2, fun k hk => h3 k _ (by simp [hk])⟩
theorem pocket_row {w : World} {A : Option Addr} {l : List (Int × Int × Int)} (h : RowAt w A (pocketCells l)) (h0 : 0 < l.length) :
    ∃ b off, A = some ⟨b, off, none⟩ ∧ b < w.heap.size ∧ ∀ k, k < l.length → w.cell? ⟨b, off + k * 3, none⟩ = some (.int .i64 (l.getD k (0, 0, 0)).1) ∧ w.cell? ⟨b, off + k * 3 + 1, none⟩ = some (.int .i64 (l.getD k (0, 0, 0)).2.1) ∧ w.cell? ⟨b, off + k * 3 + 2, none⟩ = some (.int .i64 (l.getD k (0, 0, 0)).2.2) := by
  have hl : (pocketCells l).length = l.length * 3 := flat_len _ 3 (fun _ => rfl) l
  obtain ⟨b, off, h1, h2, h3⟩ := h.some_ (by omega)
  refine ⟨b, off, h1, h2, fun k hk => ?_⟩
  have e := fun j (hj : j < 3) => flat_get (fun x : Int × Int × Int => [Value.int .i64 x.1, Value.int .i64 x.2.1, Value.int .i64 x.2.2]) 3 (fun _ => rfl) (by omega) l k j hk hj
  rw [getD_get _ _ hk]
  exact ⟨h3 (k * 3) _ (e 0 (by omega)), by rw [Nat.add_assoc]; exact h3 (k * 3 + 1) _ (e 1 (by omega)), by rw [Nat.add_assoc]; exact h3 (k * 3 + 2) _ (e 2 (by omega))⟩
/-- A base that is small. -/
structure BaseC.Few (b : BaseC) : Prop where
  rings : b.bed.rings ≤ 4
  sec : b.bed.sec ≤ 6
  rk : b.run.kinds.length ≤ 24
  bk : b.bed.kinds.length ≤ 24
  grades : b.grades.length ≤ 20
  caps : b.caps.length ≤ 8
  pockets : b.pockets.length ≤ 4
  compass : b.compass.length ≤ 20
  meshes : b.meshes.length ≤ 20
  s0 : b.s0.length ≤ 40
  s1 : b.s1.length ≤ 40
  a0 : b.a0.length ≤ 40
  a1 : b.a1.length ≤ 40
  reach : b.reach.length ≤ 20
  rrow : ∀ l ∈ b.reach, l.length ≤ 70
  drive : b.drive.length ≤ 20
  drow : ∀ l ∈ b.drive, l.length ≤ 10
end Go.Proofs.YteihcodicfoiaaaGreat
namespace Go.Proofs.YteihcodicfoiaaaGreat
open Go.RowKit

def FewLeadsP (b : BaseC) (w : World) (e : Ending) (w' : World) : Prop :=
  Below w.heap.size w w' ∧ ∃ v : Bool, e = .returned (.bool v) ∧ (v = true → b.reach.length ≤ 20 ∧ b.drive.length ≤ 20 ∧ (∀ l ∈ b.reach, l.length ≤ 70) ∧ (∀ l ∈ b.drive, l.length ≤ 10))

theorem all_len {α : Type} {ls : List (List α)} {M : Nat} (h : ∀ k, k < ls.length → (ls.getD k []).length ≤ M) : ∀ l ∈ ls, l.length ≤ M := fun l hl => by
  obtain ⟨k, hk, rfl⟩ := List.getElem_of_mem hl
  have := h k hk
  rwa [getD_get _ _ hk] at this

set_option maxRecDepth 100000 in
set_option maxHeartbeats 4000000 in
theorem fewLeads_any (b : BaseC) (z : BaseL) (w : World) (hb : BaseAt w b z) (hp : b.pockets.length ≤ 4) (hr : b.reach.length ≤ 9223372036854775807) (hd : b.drive.length ≤ 9223372036854775807)
    (hrr : ∀ k, k < b.reach.length → (b.reach.getD k []).length ≤ 9223372036854775807) (hdd : ∀ k, k < b.drive.length → (b.drive.getD k []).length ≤ 9223372036854775807) :
    Calls Tryz.prog 32 #[.agg (b.arr z)] w (FewLeadsP b w) := by
  obtain ⟨W, hW⟩ : ∃ W, w.alloc (.cells (b.arr z) 41) = W := ⟨_, rfl⟩
  have hbW : Below w.heap.size w W := by rw [← hW]; exact (Below.refl _ _).alloc (Nat.le_refl _) _
  have X := (show Bk W w.heap.size 41 (b.arr z) by rw [← hW]; exact bk_last rfl)
  unfold BaseC.arr at *
  have x8 := X.cell 8
  have x22 := X.cell 22
  have x24 := X.cell 24
  simp at x8 x22 x24
  have HW := Lib.hid hW
  have HB := Lib.hid (hb.below hbW)
  have HRR := Lib.hid hrr
  have HDD := Lib.hid hdd
  clear hW hb X hrr hdd
  go_enter Tryz.func32, Tryz.ntmps32
  go_upto_region 1 with fail
  rw [HW.out]
  clear HW
  go_wp2_with fail
  go_loopw [3, 4] (fun vn i wr => W = wr ∧ ∃ k : Nat, k ≤ b.pockets.length ∧ i = .int .i64 k ∧ ∃ n : Int, 1 ≤ n ∧ n ≤ 1000 ∧ vn = .int .i64 n) (fun _ i _ => b.pockets.length - (intOf i).toNat)
  case atStart => exact ⟨rfl, 0, Nat.zero_le _, rfl, 1, by omega, by omega, rfl⟩
  case round =>
    obtain ⟨rfl, k, hk, rfl, n, hn1, hn2, rfl⟩ := hrel
    by_cases hlt : k < b.pockets.length
    · have hkI : (k : Int) < b.pockets.length := by omega
      obtain ⟨b5, o5, hA, hb5, hc5⟩ := pocket_row HB.out.pockets (by omega)
      have c2 := (hc5 k hlt).2.2
      clear hc5
      rw [hA] at x24
      rw [hA]
      clear hA
      generalize (b.pockets.getD k (0, 0, 0)).2.2 = x at *
      by_cases h1 : x < 0
      · go_wp2_with fail
        go_roundw
        case rel => exact ⟨trivial, k + 1, by omega, by go_num, n, hn1, hn2, rfl⟩
        case measure => simp [intOf]; omega
      · by_cases h2 : 255 < x
        · have h2' : x > 255 := h2
          go_wp2_with fail
          go_roundw
          case rel => exact ⟨trivial, k + 1, by omega, by go_num, n, hn1, hn2, rfl⟩
          case measure => simp [intOf]; omega
        · have h2' : ¬ x > 255 := h2
          have hm1 : n * 1 ≤ n * (x + 1) := Int.mul_le_mul_of_nonneg_left (by omega) (by omega)
          have hm2 : n * (x + 1) ≤ 1000 * 256 := Int.mul_le_mul hn2 (by omega) (by omega) (by omega)
          have hw1 := IntWalk.i64_in (x + 1) (by omega)
          have hw2 := IntWalk.i64_in (n * (x + 1)) (by omega)
          by_cases h3 : n * (x + 1) > 1000
          · go_wp2_with fail
            go_ret
            exact ⟨hbW, _, rfl, fun h => by cases h⟩
          · go_wp2_with fail
            go_roundw
            case rel => exact ⟨trivial, k + 1, by omega, by go_num, _, by omega, by omega, rfl⟩
            case measure => simp [intOf]; omega
    · obtain rfl : k = b.pockets.length := by omega
      clear hn1 hn2
      go_wp2_with fail
      go_loopw [5] (fun i wr => W = wr ∧ ∃ k : Nat, k ≤ b.reach.length ∧ i = .int .i64 k ∧ Hid (∀ j, j < k → (b.reach.getD j []).length ≤ 70)) (fun i _ => b.reach.length - (intOf i).toNat)
      case atStart => exact ⟨rfl, 0, Nat.zero_le _, rfl, fun j h => absurd h (by omega)⟩
      case round =>
        obtain ⟨rfl, k, hk, rfl, hall⟩ := hrel
        by_cases hlt : k < b.reach.length
        · have hkI : (k : Int) < b.reach.length := by omega
          obtain ⟨b5, o5, hA, hb5, hc5⟩ := row_cell HB.out.reach (by omega)
          have c0 := hc5 k hlt
          have hl := HRR.out k hlt
          have HN : Hid ((b.reach.getD k []).length ≤ 70 → ∀ j, j < k + 1 → (b.reach.getD j []).length ≤ 70) := fun h j hj => by
            rcases Nat.lt_or_ge j k with g | g
            · exact hall.out j g
            · obtain rfl : j = k := by omega
              exact h
          unfold rowV at c0
          clear hc5 hall
          rw [hA] at x22
          rw [hA]
          clear hA
          generalize (z.rrows.getD k (none, 0)).1 = A at *
          generalize (z.rrows.getD k (none, 0)).2 = cc at *
          generalize (b.reach.getD k []).length = m at *
          by_cases h7 : m ≤ 70
          · have h7' : ¬ (m : Int) > 70 := by omega
            have HN2 := Lib.hid (HN.out h7)
            clear HN
            go_wp2_with fail
            go_roundw
            case rel => exact ⟨trivial, k + 1, by omega, by go_num, HN2⟩
            case measure => simp [intOf]; omega
          · have h7' : (m : Int) > 70 := by omega
            clear HN
            go_wp2_with fail
            go_ret
            exact ⟨hbW, _, rfl, fun h => by cases h⟩
        · obtain rfl : k = b.reach.length := by omega
          have HALL := Lib.hid (all_len hall.out)
          clear hall
          go_wp2_with fail
          go_loopw [6] (fun i wr => W = wr ∧ ∃ k : Nat, k ≤ b.drive.length ∧ i = .int .i64 k ∧ Hid (∀ j, j < k → (b.drive.getD j []).length ≤ 10)) (fun i _ => b.drive.length - (intOf i).toNat)
          case atStart => exact ⟨rfl, 0, Nat.zero_le _, rfl, fun j h => absurd h (by omega)⟩
          case round =>
            obtain ⟨rfl, k, hk, rfl, hall⟩ := hrel
            by_cases hlt : k < b.drive.length
            · have hkI : (k : Int) < b.drive.length := by omega
              obtain ⟨b5, o5, hA, hb5, hc5⟩ := row_cell HB.out.drive (by omega)
              have c0 := hc5 k hlt
              have hl := HDD.out k hlt
              have HN : Hid ((b.drive.getD k []).length ≤ 10 → ∀ j, j < k + 1 → (b.drive.getD j []).length ≤ 10) := fun h j hj => by
                rcases Nat.lt_or_ge j k with g | g
                · exact hall.out j g
                · obtain rfl : j = k := by omega
                  exact h
              unfold rowV at c0
              clear hc5 hall
              rw [hA] at x8
              rw [hA]
              clear hA
              generalize (z.rows.getD k (none, 0)).1 = A at *
              generalize (z.rows.getD k (none, 0)).2 = cc at *
              generalize (b.drive.getD k []).length = m at *
              by_cases h7 : m ≤ 10
              · have h7' : ¬ (m : Int) > 10 := by omega
                have HN2 := Lib.hid (HN.out h7)
                clear HN
                go_wp2_with fail
                go_roundw
                case rel => exact ⟨trivial, k + 1, by omega, by go_num, HN2⟩
                case measure => simp [intOf]; omega
              · have h7' : (m : Int) > 10 := by omega
                clear HN
                go_wp2_with fail
                go_ret
                exact ⟨hbW, _, rfl, fun h => by cases h⟩
            · obtain rfl : k = b.drive.length := by omega
              have HALD := Lib.hid (all_len hall.out)
              clear hall
              by_cases h1 : b.reach.length ≤ 20
              · have h1' : (b.reach.length : Int) ≤ 20 := by omega
                by_cases h2 : b.drive.length ≤ 20
                · have h2' : (b.drive.length : Int) ≤ 20 := by omega
                  go_wp2_with fail
                  go_ret
                  exact ⟨hbW, _, rfl, fun _ => ⟨h1, h2, HALL.out, HALD.out⟩⟩
                · have h2' : ¬ (b.drive.length : Int) ≤ 20 := by omega
                  go_wp2_with fail
                  go_ret
                  exact ⟨hbW, _, rfl, fun h => by simp at h⟩
              · have h1' : ¬ (b.reach.length : Int) ≤ 20 := by omega
                go_wp2_with fail
                go_ret
                exact ⟨hbW, _, rfl, fun h => by simp at h⟩

/-- A whole struct is read out of its box, at a guarded operation. -/
theorem wpList_load_rowG {P : Program} {ops : Array Oper} {rest : List Oper} {o : Oper} {a : Act} {w : World} {Q : Exit → Act → World → Prop} (hw : Region.wanted o (yielded ops a.tmps) = true) (ty : TypeId) (x : Operand) (ho : o.op = .load ty x)
    (g : Nat) (hx : a.eval x = .pointer (some ⟨g, 0, none⟩)) (t : TypeId) (cs : Array Value) (d : TypeDesc) (hg : Bk w g t cs)
    (hu : P.underlying ty = some d) (hd : (match d with | .struct _ | .array _ _ => true | _ => false) = true) (hi : (P.info? ty).map (·.size) = some cs.size)
    (h : wpList P ops Q rest (a.put o.dst (.agg cs)) w) : wpList P ops Q (o :: rest) a w := by
  unfold wpList
  rw [if_pos hw]
  exact .inl (wp_load_row ty x ho g hx t cs (0, 0) d hg hu hd hi h)

def heapN (l : List EvD) : Int := l.foldl (fun n e => if 1 ≤ e.note.hlo ∧ e.note.hhi ≤ 255 ∧ e.note.hlo ≤ e.note.hhi then n * (e.note.hhi - e.note.hlo + 1) else n) 1
def FewP (b : BaseC) (H E : List EvD) (w : World) (e : Ending) (w' : World) : Prop :=
  Below w.heap.size w w' ∧ ∃ v : Bool, e = .returned (.bool v) ∧ (v = true → b.Few ∧ H.length ≤ 8 ∧ E.length ≤ 10 ∧ heapN H ≤ 12 ∧ ∀ e ∈ E, e.note.strokes.length ≤ 100)
theorem heapN_take (H : List EvD) (k : Nat) (hk : k < H.length) : heapN (H.take (k + 1)) = if 1 ≤ (H.getD k ev0).note.hlo ∧ (H.getD k ev0).note.hhi ≤ 255 ∧ (H.getD k ev0).note.hlo ≤ (H.getD k ev0).note.hhi then heapN (H.take k) * ((H.getD k ev0).note.hhi - (H.getD k ev0).note.hlo + 1) else heapN (H.take k) := by
  unfold heapN
  rw [List.take_succ_eq_append_getElem hk, List.foldl_append, getD_get _ _ hk]
  rfl

theorem few_no {b : BaseC} {H E : List EvD} {w W : World} (hb : Below w.heap.size w W) : FewP b H E w (.returned (.bool false)) W := ⟨hb, false, rfl, fun h => by cases h⟩

set_option maxRecDepth 100000 in
set_option maxHeartbeats 8000000 in
theorem few_any (b : BaseC) (z : BaseL) (A1 A2 A3 : Option Addr) (c1 c2 n3 c3 : Nat) (H E : List EvD) (w : World) (hb : BaseAt w b z) (hH : RowAt w A1 (evCells H)) (hE : RowAt w A2 (evCells E))
    (hs : ∀ e ∈ E, e.note.strokes.length ≤ 1000) (hHl : H.length ≤ 9223372036854775807)
    (hr : b.reach.length ≤ 9223372036854775807) (hd : b.drive.length ≤ 9223372036854775807)
    (hrr : ∀ k, k < b.reach.length → (b.reach.getD k []).length ≤ 9223372036854775807) (hdd : ∀ k, k < b.drive.length → (b.drive.getD k []).length ≤ 9223372036854775807) :
    Calls Tryz.prog 16 #[.agg (b.arr z), regV A1 H.length c1 A2 E.length c2 A3 n3 c3] w (FewP b H E w) := by
  have HFL := Lib.hid (fun (X : World) (h : Below w.heap.size w X) (hp : b.pockets.length ≤ 4) => fewLeads_any b z X (hb.below h) hp hr hd hrr hdd)
  have HLE := Lib.hid (fun (X : World) (h : Below w.heap.size w X) (hl : E.length ≤ 10) => lightEvents_any A1 A2 A3 H.length c1 c2 n3 c3 E X (hE.below h) hl hs)
  obtain ⟨W, hW⟩ : ∃ W, (w.alloc (.cells (b.arr z) 41)).alloc (.cells #[.slice A1 H.length c1, .slice A2 E.length c2, .slice A3 n3 c3] 49) = W := ⟨_, rfl⟩
  have hbW : Below w.heap.size w W := by rw [← hW]; exact ((Below.refl _ _).alloc (Nat.le_refl _) _).alloc (by simp) _
  have X := (show Bk W w.heap.size 41 (b.arr z) by rw [← hW]; exact (bk_last rfl).alloc _)
  have Y := (show Bk W (w.heap.size + 1) 49 #[.slice A1 H.length c1, .slice A2 E.length c2, .slice A3 n3 c3] by rw [← hW]; exact bk_last (by simp))
  have HX := Lib.hid X
  have HY := Lib.hid Y
  unfold regV at *
  have HW := Lib.hid hW
  have HH := Lib.hid (hH.below hbW)
  have hsW : W.heap.size = w.heap.size + 2 := by rw [← hW]; simp
  have hsW' : w.heap.size + 1 < W.heap.size := by omega
  have hsW'' : w.heap.size < W.heap.size := by omega
  clear hsW hs hr hd hrr hdd hb hE hH
  have x0 := X.cell 0
  have x1 := X.cell 1
  have x2 := X.cell 2
  have x3 := X.cell 3
  have x7 := X.cell 7
  have x11 := X.cell 11
  have x14 := X.cell 14
  have x15 := X.cell 15
  have x16 := X.cell 16
  have x17 := X.cell 17
  have x21 := X.cell 21
  have x23 := X.cell 23
  have x24 := X.cell 24
  have x26 := X.cell 26
  have y0 := Y.cell 0
  have y1 := Y.cell 1
  simp [BaseC.arr] at x0 x1 x2 x3 x7 x11 x14 x15 x16 x17 x21 x23 x24 x26 y0 y1
  clear hW X Y
  go_enter Tryz.func16, Tryz.ntmps16
  go_upto_region 1 with fail
  rw [HW.out]
  clear HW
  by_cases h0 : b.bed.rings > 4
  · go_wp2_with fail
    go_ret
    exact few_no (hbW.alloc (by omega) _)
  by_cases h1 : b.bed.sec > 6
  · go_wp2_with fail
    go_ret
    exact few_no (hbW.alloc (by omega) _)
  by_cases h2 : (b.run.kinds.length : Int) > 24
  · go_wp2_with fail
    go_ret
    exact few_no (hbW.alloc (by omega) _)
  by_cases h3 : (b.bed.kinds.length : Int) > 24
  · go_wp2_with fail
    go_ret
    exact few_no (hbW.alloc (by omega) _)
  by_cases h4 : (b.grades.length : Int) > 20
  · go_wp2_with fail
    go_ret
    exact few_no (hbW.alloc (by omega) _)
  by_cases h5 : (b.caps.length : Int) > 8
  · go_wp2_with fail
    go_ret
    exact few_no (hbW.alloc (by omega) _)
  by_cases h6 : (b.pockets.length : Int) > 4
  · go_wp2_with fail
    go_ret
    exact few_no (hbW.alloc (by omega) _)
  by_cases h7 : (b.compass.length : Int) > 20
  · go_wp2_with fail
    go_ret
    exact few_no (hbW.alloc (by omega) _)
  by_cases h8 : (b.meshes.length : Int) > 20
  · go_wp2_with fail
    go_ret
    exact few_no (hbW.alloc (by omega) _)
  have HF := Lib.hid (And.intro h0 (And.intro h1 (And.intro h2 (And.intro h3 (And.intro h4 (And.intro h5 (And.intro h6 (And.intro h7 h8))))))))
  have X2 := HX.out.alloc (.cells #[.int .i64 b.bed.eye, .int .i64 b.bed.rings, .int .i64 b.bed.sec, .slice z.bed.1 b.bed.kinds.length z.bed.2] 24)
  have Y2 := HY.out.alloc (.cells #[.int .i64 b.bed.eye, .int .i64 b.bed.rings, .int .i64 b.bed.sec, .slice z.bed.1 b.bed.kinds.length z.bed.2] 24)
  have hb2 := hbW.alloc (show w.heap.size ≤ W.heap.size by omega) (.cells #[.int .i64 b.bed.eye, .int .i64 b.bed.rings, .int .i64 b.bed.sec, .slice z.bed.1 b.bed.kinds.length z.bed.2] 24)
  have hH2 := Lib.hid (HH.out.below ((Below.refl _ _).alloc (Nat.le_refl _) (.cells #[.int .i64 b.bed.eye, .int .i64 b.bed.rings, .int .i64 b.bed.sec, .slice z.bed.1 b.bed.kinds.length z.bed.2] 24)))
  go_wp2_with fail
  clear x0 x1 x2 x3 x7 x11 x14 x15 x16 x17 x21 x23 x24 x26 y0 y1
  generalize W.alloc _ = V at *
  go_loopw [6] (fun i wr => V = wr ∧ ∃ k : Nat, k ≤ 2 ∧ i = .int .i64 k ∧ Hid ((0 < k → b.s0.length ≤ 40 ∧ b.a0.length ≤ 40) ∧ (1 < k → b.s1.length ≤ 40 ∧ b.a1.length ≤ 40))) (fun i _ => 2 - (intOf i).toNat)
  case atStart => exact ⟨rfl, 0, Nat.zero_le _, rfl, fun h => absurd h (by omega), fun h => absurd h (by omega)⟩
  case round =>
    obtain ⟨rfl, k, hk, rfl, hall⟩ := hrel
    have x14 := X2.cell 14
    have x15 := X2.cell 15
    have x16 := X2.cell 16
    have x17 := X2.cell 17
    simp [BaseC.arr] at x14 x15 x16 x17
    have hk3 : k = 0 ∨ k = 1 ∨ k = 2 := by omega
    rcases hk3 with rfl | rfl | rfl
    · by_cases g1 : (b.s0.length : Int) > 40
      · go_wp2_with fail
        go_ret
        exact few_no hb2
      · by_cases g2 : (b.a0.length : Int) > 40
        · go_wp2_with fail
          go_ret
          exact few_no hb2
        · have HN : Hid ((0 < 1 → b.s0.length ≤ 40 ∧ b.a0.length ≤ 40) ∧ (1 < 1 → b.s1.length ≤ 40 ∧ b.a1.length ≤ 40)) := ⟨fun _ => by omega, fun h => absurd h (by omega)⟩
          go_wp2_with fail
          go_roundw
          case rel => exact ⟨trivial, 1, by omega, by go_num, HN⟩
          case measure => simp [intOf]
    · by_cases g1 : (b.s1.length : Int) > 40
      · go_wp2_with fail
        go_ret
        exact few_no hb2
      · by_cases g2 : (b.a1.length : Int) > 40
        · go_wp2_with fail
          go_ret
          exact few_no hb2
        · have HN : Hid ((0 < 2 → b.s0.length ≤ 40 ∧ b.a0.length ≤ 40) ∧ (1 < 2 → b.s1.length ≤ 40 ∧ b.a1.length ≤ 40)) := ⟨fun _ => hall.out.1 (by omega), fun _ => by omega⟩
          go_wp2_with fail
          go_roundw
          case rel => exact ⟨trivial, 2, by omega, by go_num, HN⟩
          case measure => simp [intOf]
    · clear x14 x15 x16 x17
      have y0 := Y2.cell 0
      have y1 := Y2.cell 1
      simp at y0 y1
      have HST := Lib.hid (And.intro (hall.out.1 (by omega)) (hall.out.2 (by omega)))
      have HV := Lib.hid (And.intro X2 (And.intro Y2 hb2))
      have hB0 := Below.refl V.heap.size V
      clear hall X2 Y2 hb2
      go_wp2_with fail
      clear y0 y1
      go_loopw [7, 8] (fun vn vi wr => ∃ k : Nat, k ≤ H.length ∧ vi = .int .i64 k ∧ ∃ n : Int, vn = .int .i64 n ∧ 1 ≤ n ∧ n ≤ 12 ∧ Hid (heapN (H.take k) = n) ∧ Below V.heap.size V wr) (fun _ i _ => H.length - (intOf i).toNat)
      case atStart => exact ⟨0, Nat.zero_le _, rfl, 1, rfl, by omega, by omega, rfl, hB0⟩
      case round =>
        obtain ⟨k, hk, rfl, n, rfl, hn1, hn2, hn, hB⟩ := hrel
        clear hB0
        obtain ⟨X2, Y2, hb2⟩ := HV.out
        replace X2 := X2.keep hB
        replace Y2 := Y2.keep hB
        replace hb2 := hb2.trans (hB.mono hb2.size)
        have y0 := Y2.cell 0
        have y1 := Y2.cell 1
        simp at y0 y1
        by_cases hlt : k < H.length
        · have hkI : (k : Int) < H.length := by omega
          obtain ⟨b5, o5, hA, hb5, hc5⟩ := ev_row (hH2.out.below hB) (by omega)
          have c10 := hc5 k hlt 10 (.int .i64 (H.getD k ev0).note.hlo) rfl
          have c11 := hc5 k hlt 11 (.int .i64 (H.getD k ev0).note.hhi) rfl
          have hlb5 : b5 < wr.heap.size := hb5
          have HT := heapN_take H k hlt
          rw [hn.out] at HT
          have HT := Lib.hid HT
          rw [hA] at y0
          rw [hA]
          have HB := Lib.hid (And.intro hB hb2)
          clear hA hc5 X2 Y2 hn hB hb2
          generalize (H.getD k ev0).note.hlo = lo at *
          generalize (H.getD k ev0).note.hhi = hi at *
          by_cases q1 : lo < 1
          · go_wp2_with fail
            go_roundw
            case rel => exact ⟨k + 1, by omega, by go_num, n, rfl, hn1, hn2, by rw [HT.out, if_neg (by omega)]; exact Lib.hid rfl, HB.out.1.alloc HB.out.1.size _⟩
            case measure => simp [intOf]; omega
          · by_cases q2 : hi > 255
            · go_wp2_with fail
              go_roundw
              case rel => exact ⟨k + 1, by omega, by go_num, n, rfl, hn1, hn2, by rw [HT.out, if_neg (by omega)]; exact Lib.hid rfl, HB.out.1.alloc HB.out.1.size _⟩
              case measure => simp [intOf]; omega
            · by_cases q3 : lo > hi
              · go_wp2_with fail
                go_roundw
                case rel => exact ⟨k + 1, by omega, by go_num, n, rfl, hn1, hn2, by rw [HT.out, if_neg (by omega)]; exact Lib.hid rfl, HB.out.1.alloc HB.out.1.size _⟩
                case measure => simp [intOf]; omega
              · have hm1 : n * 1 ≤ n * (hi - lo + 1) := Int.mul_le_mul_of_nonneg_left (by omega) (by omega)
                have hm2 : n * (hi - lo + 1) ≤ 12 * 255 := Int.mul_le_mul hn2 (by omega) (by omega) (by omega)
                have hw0 := IntWalk.i64_in (hi - lo) (by omega)
                have hw1 := IntWalk.i64_in (hi - lo + 1) (by omega)
                have hw2 := IntWalk.i64_in (n * (hi - lo + 1)) (by omega)
                rw [if_pos (by omega)] at HT
                by_cases q4 : n * (hi - lo + 1) > 12
                · go_wp2_with fail
                  go_ret
                  exact few_no (HB.out.2.alloc HB.out.2.size _)
                · go_wp2_with fail
                  go_roundw
                  case rel => exact ⟨k + 1, by omega, by go_num, _, rfl, by omega, by omega, HT, HB.out.1.alloc HB.out.1.size _⟩
                  case measure => simp [intOf]; omega
        · obtain rfl : k = H.length := by omega
          rw [List.take_of_length_le (Nat.le_refl _)] at hn
          clear hlt hk
          by_cases q1 : H.length ≤ 8
          · have q1' : (H.length : Int) ≤ 8 := by omega
            by_cases q2 : E.length ≤ 10
            · have q2' : (E.length : Int) ≤ 10 := by omega
              have HL := Lib.hid (HLE.out wr hb2 q2)
              have y2 := Y2.cell 2
              simp at y2
              have HPO := Lib.hid (And.intro hn2 hn)
              clear hn1 hn2 hn
              cases q3 : decide (lightN E ≤ 100) with
              | false =>
                rw [q3] at HL
                have HB2 := Lib.hid hb2
                clear q3 X2 Y2 hB hb2
                go_wp2_with (go_at_call 31; refine HL.out.mono ?_; rintro e w1 ⟨rfl, hb1⟩)
                go_ret
                exact few_no (HB2.out.trans (hb1.mono HB2.out.size))
              | true =>
                rw [q3] at HL
                have q3 : lightN E ≤ 100 := by simpa using q3
                have HQ3 := Lib.hid q3
                have HB2 := Lib.hid hb2
                have hlw := X2.lt
                have hp4 : b.pockets.length ≤ 4 := by have := HF.out; omega
                have HX2 := Lib.hid X2
                clear q3 X2 Y2 hB hb2
                go_wp2_with (first | (go_at_call 31; refine HL.out.mono ?_; rintro e w1 ⟨rfl, hb1⟩; have hld := HX2.out.keep hb1) | (refine wpList_load_rowG (by rfl) 41 (.tmp 2) rfl w.heap.size rfl 41 (b.arr z) _ hld Tryz.underlying41 rfl (by kernel_rfl) ?_; clear hld) | (go_at_call 32; refine (HFL.out _ (HB2.out.trans (hb1.mono HB2.out.size)) hp4).mono ?_; rintro e w2 ⟨hb5, v, rfl, hv⟩))
                go_ret
                refine ⟨(HB2.out.trans (hb1.mono HB2.out.size)).trans (hb5.mono (HB2.out.trans (hb1.mono HB2.out.size)).size), v, rfl, fun hvt => ?_⟩
                obtain ⟨v1, v2, v3, v4⟩ := hv hvt
                obtain ⟨f0, f1, f2, f3, f4, f5, f6, f7, f8⟩ := HF.out
                obtain ⟨⟨g1, g2⟩, g3, g4⟩ := HST.out
                refine ⟨⟨by omega, by omega, by omega, by omega, by omega, by omega, by omega, by omega, by omega, g1, g3, g2, g4, v1, v3, v2, v4⟩, q1, q2, by rw [HPO.out.2.out]; exact HPO.out.1, fun x hx => Nat.le_trans (lightN_le E x hx) HQ3.out⟩
            · have q2' : ¬ (E.length : Int) ≤ 10 := by omega
              clear hn1 hn2 hn X2 hB
              go_wp2_with fail
              go_ret
              exact few_no hb2
          · have q1' : ¬ (H.length : Int) ≤ 8 := by omega
            clear hn1 hn2 hn X2 hB
            go_wp2_with fail
            go_ret
            exact few_no hb2
end Go.Proofs.YteihcodicfoiaaaGreat
namespace Go.Proofs.YteihcodicfoiaaaGreat
open Go.RowKit Go.Shelf
attribute [local go_sem ↓] max_int min_int
attribute [local go_sem] Oper.semAt_some

/-- No grain that comes in may stay for ever. -/
def FreeF (f : Flr) : Prop := ∀ m, m < f.S * f.S → AccS f (entN f m)
def EndsE (f : Flr) (w : World) (e : Ending) (w' : World) : Prop :=
  Below w.heap.size w w' ∧ ((FreeF f ∧ e = .returned (.bool true)) ∨ (¬ FreeF f ∧ e = .returned (.bool false)))

theorem keepsO_of_below {W W' : World} (h : Below W.heap.size W W') : KeepsOthers W W' := ⟨h.size, fun k o hk _ => (h.block k (Array.getElem?_eq_some_iff.1 hk).1).trans hk⟩

set_option maxRecDepth 100000 in
set_option maxHeartbeats 8000000 in
theorem ends_any (f : Flr) (z : FLoc) (b Bs : Nat) (w : World) (hf : FlAt w b f z) (hok : f.Ok) (h1 : Bk w Bs 173 #[.pointer (some ⟨b, 0, none⟩)]) :
    Calls Tryz.prog 102 #[.pointer (some ⟨b, 0, none⟩), .func (.func 151) #[] #[.pointer (some ⟨Bs, 0, none⟩)]] w (EndsE f w) := by
  obtain ⟨N, hN⟩ : ∃ N, N = f.R * f.S * f.S := ⟨_, rfl⟩
  have HST := Lib.hid (fun (X : World) (h : Below w.heap.size w X) => states_any b f z X (hf.below h) hok)
  rw [← hN] at HST
  have hNb : N ≤ 256 := by rw [hN]; exact Nat.mul_le_mul (Nat.mul_le_mul hok.r1 hok.s1) hok.s1
  have HLP := Lib.hid (fun (X : World) (gd i : Nat) (dn : List Bool) (hB : Below w.heap.size w X) (hgd : w.heap.size ≤ gd) (D : Bk X gd 4 (boolCells dn).toArray) (hl : dn.length = N) (hacc : ∀ k, dn.getD k false = true → AccS f k) (hi : i < N) => loop_any f z b w.heap.size gd N i dn w X hf hok hN rfl hB hgd D hl hacc hi)
  have HEN := Lib.hid (fun (m : Fin (f.S * f.S)) => show entN f m.1 < N by rw [hN]; exact entN_lt hok m.2)
  have HES := Lib.hid (fun (U : World) (hU : Below w.heap.size w U) (Y : Bk U Bs 173 #[.pointer (some ⟨b, 0, none⟩)]) => entries1_stops (3 - 1) w.heap.size b Bs f z w U hf hok rfl hU Y)
  obtain ⟨W, hW⟩ : ∃ W, (w.alloc (.cells #[.pointer (some ⟨b, 0, none⟩)] 173)).alloc (.cells #[.bool false] 4) = W := ⟨_, rfl⟩
  have hbW : Below w.heap.size w W := by rw [← hW]; exact ((Below.refl _ _).alloc (Nat.le_refl _) _).alloc (by simp) _
  have X0 : Bk W w.heap.size 173 #[.pointer (some ⟨b, 0, none⟩)] := by rw [← hW]; exact (bk_last rfl).alloc _
  have X1 : Bk W (w.heap.size + 1) 4 #[.bool false] := by rw [← hW]; exact bk_last (by simp)
  have x0 := X0.cell 0
  simp at x0
  have HW := Lib.hid hW
  have HN := Lib.hid hN
  clear hW hN
  obtain ⟨j0, hj0, jz0, jz1, jz2⟩ := info_parts boolInfo
  have bb2 : j0.bytes * N ≤ 281474976710656 := by rw [jz2]; omega
  have bb3 : N ≤ maxLen := by unfold maxLen; omega
  refine (callsIn_wide (n := 3)).1 ?_
  refine callsIn_of_wp_marks Tryz.func102 rfl trivial ?_ rfl
  simp only [Tryz.ntmps102, List.size_toArray, List.length_cons, List.length_nil, Nat.reduceAdd, Nat.reduceSub, Array.replicate_succ, Array.replicate_zero, List.push_toArray, List.append_toArray, List.nil_append, List.cons_append]
  refine wpIn_wide.2 ?_
  go_upto_region 1 with fail
  rw [HW.out]
  clear HW
  go_wp2_with (first | (go_at_call 122; refine (HST.out W hbW).mono ?_; rintro e w1 ⟨rfl, hb1⟩) | (at_make; refine (wpList_make_full _ rfl _ _ 266 rfl w1.heap.size 4 j0 _ 1 Tryz.underlying266 hj0 jz0 jz1 .i64 .i64 _ _ N rfl rfl rfl rfl bb2 bb3 (Nat.le_refl _) ?_); intro w2 hown hgr))
  rw [made_bools] at hown
  have R2 := own_full hown
  have hb1w := hbW.trans (hb1.mono hbW.size)
  have hb2 : Below w1.heap.size w1 w2 := ⟨hgr.os, hgr.tape, hgr.output, hgr.size, fun k hk => hgr.block k hk (by simp)⟩
  have hb2w := hb1w.trans (hb2.mono hb1w.size)
  have Z0 := (X0.keep hb1).keep hb2
  have Z1 := (X1.keep hb1).keep hb2
  have hz1 : w.heap.size ≤ w1.heap.size := hb1w.size
  have hz2 : w1.heap.size < w2.heap.size := R2.lt
  have hz3 : w.heap.size + 1 < w1.heap.size := (X1.keep hb1).lt
  obtain ⟨gd, hgd⟩ : ∃ g, w1.heap.size = g := ⟨_, rfl⟩
  obtain ⟨qd, hqd⟩ : ∃ q, w2.heap.size = q := ⟨_, rfl⟩
  have Y1 := h1.keep hb2w
  rw [hgd] at R2 hz1 hz2 hz3
  rw [hqd] at hz2
  rw [hgd, hqd]
  obtain ⟨U, hU⟩ : ∃ U, w2.alloc (.cells #[.slice (some ⟨gd, 0, none⟩) N N] 266) = U := ⟨_, rfl⟩
  rw [hU]
  have hbU : Below w2.heap.size w2 U := by rw [← hU]; exact (Below.refl _ _).alloc (Nat.le_refl _) _
  have Qd : Bk U qd 266 #[.slice (some ⟨gd, 0, none⟩) N N] := by rw [← hU]; exact bk_last hqd
  replace Z0 := Z0.keep hbU
  replace Z1 := Z1.keep hbU
  replace R2 := R2.keep hbU
  replace Y1 := Y1.keep hbU
  have hBU := hb2w.trans (hbU.mono hb2w.size)
  clear hU hbU hb2w hb2 hb1w hb1 hown hgr hgd hqd X0 X1 x0 h1 hbW HST
  have hqU := Qd.lt
  have hU0 := hBU.size
  refine (wpIn_wide (n := 3)).1 ?_
  refine wpIn_rangeFunc_ownH rfl (by omega) (gf := 151) (lb := #[.pointer (some ⟨Bs, 0, none⟩)]) rfl trivial (enters_of Tryz.func151 (by kernel_rfl) rfl)
    (encs := entEnc f) (Kp := KpS w.heap.size) (S := fun xs => xs = List.finRange (f.S * f.S)) (Sp := fun pre => pre <+: List.finRange (f.S * f.S)) (N := f.S * f.S) (w0 := U)
    (HES.out U hBU Y1)
    ?k1 ?k2 (Below.refl _ _) (fun _ => rfl)
    (fun pre W' => Below w.heap.size w W' ∧ Bk W' w.heap.size 173 #[.pointer (some ⟨b, 0, none⟩)] ∧ Bk W' (w.heap.size + 1) 4 #[.bool false] ∧ Bk W' qd 266 #[.slice (some ⟨gd, 0, none⟩) N N] ∧ (∃ dn, dn.length = N ∧ Bk W' gd 4 (boolCells dn).toArray ∧ ∀ k, dn.getD k false = true → AccS f k) ∧ (∀ m ∈ pre, AccS f (entN f m.1)))
    (fun c _ W' => c = .ret ∧ ¬ FreeF f ∧ Below w.heap.size w W' ∧ Bk W' (w.heap.size + 1) 4 #[.bool false])
    ?I ?Ix ⟨hBU, Z0, Z1, Qd, ⟨_, by simp, R2, fun k hk => by
      rw [List.getD_eq_getElem?_getD, List.getElem?_replicate] at hk
      split at hk <;> simp at hk⟩, fun m h => by cases h⟩
    (fun x a' _ => a' = { tmps := #[.pointer (some ⟨b, 0, none⟩), .func (.func 151) #[] #[.pointer (some ⟨Bs, 0, none⟩)], .pointer (some ⟨w.heap.size, 0, none⟩), undef, .pointer (some ⟨w.heap.size + 1, 0, none⟩), .pointer (some ⟨qd, 0, none⟩), .int .i64 (entN f x.1), .pointer (some ⟨b, 0, none⟩), .int .i64 N, .slice (some ⟨gd, 0, none⟩) N N, .func (.func 151) #[] #[.pointer (some ⟨Bs, 0, none⟩)], .int .i64 (entN f x.1), undef, undef, undef, undef, undef], defers := [] })
    ?Ax ?assign ?body ?done ?stop
  case k1 => exact fun h k => h.trans k
  case k2 =>
    intro X l o o' hl hX hc _
    refine ⟨belowK_b hU0 X l o o' hl hX hc ‹_›, fun k cs t r _ hk => ?_⟩
    by_cases e : k = l
    · subst e
      rw [hk] at hX
      cases hX
      cases hc
    · exact (World.putObj_heap_other e).trans hk
  case I =>
    rintro pre X X' row ⟨a1, a2, a3, a4, ⟨dn, d1, d2, d3⟩, a6⟩ hg hr
    refine ⟨a1.grown hg a1.size (fun r e => by have := (hr r e).1; omega), a2.grown hg (fun e => ?_), a3.grown hg (fun e => ?_), a4.grown hg (fun e => ?_), ⟨dn, d1, d2.grown hg (fun e => ?_), d3⟩, a6⟩
    all_goals (have := (hr _ e.symm).1; omega)
  case Ix =>
    rintro c pre X X' row ⟨a0, a1, a2, a3⟩ hg hr
    exact ⟨a0, a1, a2.grown hg a2.size (fun r e => by have := (hr r e).1; omega), a3.grown hg (fun e => by have := (hr _ e.symm).1; omega)⟩
  case Ax => exact fun _ _ _ _ _ _ h _ _ => h
  case assign =>
    rintro l pre x X K h hK
    unfold entEnc
    gi_wp2
    exact hK _ _ (KeepsFrom.refl _ _) ⟨Below.refl _ _, fun _ _ _ _ _ h => h⟩ h rfl
  case body =>
    rintro l pre x a' X hlz hrec ⟨a1, a2, a3, a4, ⟨dn, d1, d2, d3⟩, a6⟩ rfl hlt
    have HL := Lib.hid (HLP.out X gd (entN f x.1) dn a1 hz1 d2 d1 d3 (HEN.out x))
    have hnn := fun (W : World) => run_neq_slice_nil_any (P := Tryz.prog) W 155 247 none 0 0 0 0 Tryz.underlying155
    have hns := fun (W : World) (a : Addr) (k c : Nat) => run_neq_slice_nil_any (P := Tryz.prog) W 155 247 (some a) k c 0 0 Tryz.underlying155
    have y0 := a2.cell 0
    have y1 := a4.cell 0
    simp at y0 y1
    have HA := Lib.hid (And.intro a1 (And.intro a2 (And.intro a3 (And.intro a4 a6))))
    clear a1 a2 a3 a4 a6 d1 d2 d3 hrec HLP Y1 Z0 Z1 R2 Qd hBU HES
    gi_wp2
    refine ⟨trivial, (CallsIn.inRound l (callsIn_wide.2 HL.out)).mono ?_⟩
    rintro e X2 ⟨c1, c2, bk, c3, c4⟩
    obtain ⟨a1, a2, a3, a4, a6⟩ := HA.out
    have b1 := a1.trans c1
    have b2 := c3 _ _ _ a2 (by omega) (by decide)
    have b3 := c3 _ _ _ a3 (by omega) (by decide)
    have b4 := c3 _ _ _ a4 (by omega) (by decide)
    have z0 := b3.cell 0
    have z1 := b3.fz 0
    have z2 := b3.lt
    simp at z0
    have HB := Lib.hid (And.intro b1 (And.intro b2 (And.intro b3 (And.intro b4 bk))))
    clear a1 a2 a3 a4 c1 c3 b1 b2 b3 b4 bk
    rcases c4 with ⟨ak, rfl, dn', d1, d2, d3⟩ | ⟨na, ap, kp, cp, rfl⟩
    · have HD := Lib.hid (And.intro d1 (And.intro d2 d3))
      clear d1 d2 d3
      gi_wp2
      obtain ⟨b1, b2, b3, b4, bk⟩ := HB.out
      exact ⟨c2.from _, bk, b1, b2, b3, b4, ⟨dn', by rw [HD.out.1]; exact HN.out.symm, HD.out.2⟩, fun m hm => by
        rcases List.mem_append.1 hm with h | h
        · exact a6 m h
        · rw [List.mem_singleton.1 h]; exact ak⟩
    · gi_wp2
      obtain ⟨b1, b2, b3, b4, bk⟩ := HB.out
      exact ⟨(c2.trans (KeepsOthers.setCell _ _ _)).from _, rfl, fun h => na (h x.1 x.2), b1.setCell (by simp) _, by simpa using b3.put 0 (.bool false)⟩
  case done =>
    rintro D xs X hD rfl ⟨a1, a2, a3, a4, _, a6⟩ hK
    have ak : FreeF f := fun m hm => a6 ⟨m, hm⟩ (List.mem_finRange _)
    have y0 := a3.cell 0
    have y1 := a3.fz 0
    have y2 := a3.lt
    simp at y0
    have HA := Lib.hid (And.intro a1 (And.intro a3 hK))
    clear a1 a2 a3 a4 a6 hK HLP Y1 Z0 Z1 R2 Qd hBU HES
    gi_wp2
    go_wp2_with fail
    obtain ⟨a1, a3, hK⟩ := HA.out
    have b1 := a1.setCell (p := ⟨w.heap.size + 1, 0, none⟩) (by simp) (.bool true)
    have b3 := a3.put 0 (.bool true)
    have hK' : (X.setCell ⟨w.heap.size + 1, 0, none⟩ (.bool true)).heap[D]? = some (.deferred (some [])) := (Below.heap_setCell _ ⟨w.heap.size + 1, 0, none⟩ _ _ (by simp; omega)).trans hK
    generalize X.setCell ⟨w.heap.size + 1, 0, none⟩ (.bool true) = F at *
    have d2 : Bk (F.putObj D (.deferred none)) (w.heap.size + 1) 4 _ := (World.putObj_heap_other (by omega)).trans b3
    have e2 := d2.cell 0
    simp at e2
    refine ⟨by simp, .inl ⟨_, _, rfl, run_takeDeferred hK', ?_⟩⟩
    exact ⟨.bool true, by simp [results, Tryz.results102, go_sem, e2], b1.grown (grownBy_putObj' _ _ _) b1.size (fun r e => by injection e with e; omega), .inl ⟨ak, rfl⟩⟩
  case stop =>
    rintro D c pre X hD hp ⟨rfl, na, a2, a3⟩ hK
    gi_wp2
    have d2 : Bk (X.putObj D (.deferred none)) (w.heap.size + 1) 4 _ := (World.putObj_heap_other (by omega)).trans a3
    have e2 := d2.cell 0
    simp at e2
    refine ⟨by simp, .inl ⟨_, _, rfl, run_takeDeferred hK, ?_⟩⟩
    exact ⟨.bool false, by simp [results, Tryz.results102, go_sem, e2], a2.grown (grownBy_putObj' _ _ _) a2.size (fun r e => by injection e with e; omega), .inr ⟨na, rfl⟩⟩
end Go.Proofs.YteihcodicfoiaaaGreat
namespace Go.Proofs.YteihcodicfoiaaaGreat
open Go.RowKit
attribute [local go_sem ↓] max_int min_int

/-- Two faces are valid and of one form. -/
def facesOk (b r : Fac) : Bool := b.ok && r.ok && (b.eye == r.eye && b.rings == r.rings && b.sec == r.sec)

set_option maxRecDepth 100000 in
set_option maxHeartbeats 8000000 in
theorem open_bad (b r : Fac) (A1 A2 A3 : Option Addr) (c1 c2 n3 c3 : Nat) (w : World) (h1 : RowAt w A1 (intCells b.kinds)) (h2 : RowAt w A2 (intCells r.kinds)) (l1 : b.kinds.length ≤ 9223372036854775807) (l2 : r.kinds.length ≤ 9223372036854775807) (hbad : facesOk b r = false) :
    Calls Tryz.prog 78 #[.agg #[.int .i64 b.eye, .int .i64 b.rings, .int .i64 b.sec, .slice A1 b.kinds.length c1, .int .i64 r.eye, .int .i64 r.rings, .int .i64 r.sec, .slice A2 r.kinds.length c2, .slice A3 n3 c3]] w fun e w' => e = .returned (.tuple #[.pointer none, .int .i64 20]) ∧ Below w.heap.size w w' := by
  have HV1 := Lib.hid (fun (X : World) (h : Below w.heap.size w X) => valid_any b A1 c1 X (h1.below h) l1)
  have HV2 := Lib.hid (fun (X : World) (h : Below w.heap.size w X) => valid_any r A2 c2 X (h2.below h) l2)
  unfold Fac.val at HV1 HV2
  have HBAD := Lib.hid hbad
  clear h1 h2 hbad
  obtain ⟨W, hW⟩ : ∃ W, w.alloc (.cells #[.int .i64 b.eye, .int .i64 b.rings, .int .i64 b.sec, .slice A1 b.kinds.length c1, .int .i64 r.eye, .int .i64 r.rings, .int .i64 r.sec, .slice A2 r.kinds.length c2, .slice A3 n3 c3] 27) = W := ⟨_, rfl⟩
  have hbW : Below w.heap.size w W := by rw [← hW]; exact (Below.refl _ _).alloc (Nat.le_refl _) _
  have X := (show Bk W w.heap.size 27 #[.int .i64 b.eye, .int .i64 b.rings, .int .i64 b.sec, .slice A1 b.kinds.length c1, .int .i64 r.eye, .int .i64 r.rings, .int .i64 r.sec, .slice A2 r.kinds.length c2, .slice A3 n3 c3] by rw [← hW]; exact bk_last rfl)
  have hsW : W.heap.size = w.heap.size + 1 := by rw [← hW]; simp
  have x0 := X.cell 0
  have x1 := X.cell 1
  have x2 := X.cell 2
  have x3 := X.cell 3
  have x4 := X.cell 4
  have x5 := X.cell 5
  have x6 := X.cell 6
  have x7 := X.cell 7
  have x8 := X.cell 8
  simp at x0 x1 x2 x3 x4 x5 x6 x7 x8
  have HW := Lib.hid hW
  clear hW
  have hlt := X.lt
  go_enter Tryz.func78, Tryz.ntmps78
  go_upto_region 1 with fail
  rw [HW.out]
  clear HW
  go_cut [4, 5] from 9 to 12 (fun vb vr wx => ∃ p q : Nat, vb = .pointer (some ⟨p, 0, none⟩) ∧ vr = .pointer (some ⟨q, 0, none⟩) ∧ Bk wx w.heap.size 27 #[.int .i64 b.eye, .int .i64 b.rings, .int .i64 b.sec, .slice A1 b.kinds.length c1, .int .i64 r.eye, .int .i64 r.rings, .int .i64 r.sec, .slice A2 r.kinds.length c2, .slice A3 n3 c3] ∧
    Bk wx p 24 #[.int .i64 b.eye, .int .i64 b.rings, .int .i64 b.sec, .slice A1 b.kinds.length c1] ∧ Bk wx q 24 #[.int .i64 r.eye, .int .i64 r.rings, .int .i64 r.sec, .slice A2 r.kinds.length c2] ∧ Below w.heap.size w wx)
  case first =>
    have HX := Lib.hid X
    have HB := Lib.hid hbW
    clear X hsW hbW HBAD HV1 HV2
    go_region
    all_goals
      go_wp2_with fail
      go_meet
      case rel =>
        have X := HX.out
        have hb := HB.out
        first
        | exact ⟨_, _, rfl, rfl, ((X.alloc _).alloc _).drew, (Bk.new _ _ _).drew, ((bk_last rfl).alloc _).drew, ((hb.alloc hb.size _).alloc (by have := hb.size; simp; omega) _).drew⟩
        | exact ⟨_, _, rfl, rfl, ((X.alloc _).alloc _).drew, ((bk_last rfl).alloc _).drew, (bk_last (by simp)).drew, ((hb.alloc hb.size _).alloc (by have := hb.size; simp; omega) _).drew⟩
        | exact ⟨_, _, rfl, rfl, ((X.alloc _).alloc _).drew, (bk_last (by simp)).drew, ((bk_last rfl).alloc _).drew, ((hb.alloc hb.size _).alloc (by have := hb.size; simp; omega) _).drew⟩
  case rest =>
    obtain ⟨p, q, rfl, rfl, X1, P1, Q1, hb1⟩ := hcut
    clear x0 x1 x2 x3 x4 x5 x6 x7 x8 X hsW hlt
    have x0 := X1.cell 0
    have x1 := X1.cell 1
    have x2 := X1.cell 2
    have x3 := X1.cell 3
    have x4 := X1.cell 4
    have x5 := X1.cell 5
    have x6 := X1.cell 6
    have x7 := X1.cell 7
    have x8 := X1.cell 8
    have p0 := P1.cell 0
    have p1 := P1.cell 1
    have p2 := P1.cell 2
    have p3 := P1.cell 3
    simp at x0 x1 x2 x3 x4 x5 x6 x7 x8 p0 p1 p2 p3
    go_upto_region 3 with fail
    clear x0 x1 x2 x3 x4 x5 x6 x7 p0 p1 p2 p3 x8
    generalize hgg : wc.heap.size = g at *
    have F0 : Bk (wc.alloc (.cells #[.int .i64 b.eye, .int .i64 b.rings, .int .i64 b.sec, .slice A1 b.kinds.length c1, .int .i64 r.eye, .int .i64 r.rings, .int .i64 r.sec, .slice A2 r.kinds.length c2, .slice A3 n3 c3, .int .i64 b.rings, .int .i64 b.sec, .slice none 0 0, .slice none 0 0, .slice none 0 0, .slice none 0 0, .slice none 0 0, .slice none 0 0, .slice none 0 0, .slice none 0 0, .slice none 0 0] 181)) g 181 _ := bk_last hgg
    replace X1 := X1.alloc (.cells #[.int .i64 b.eye, .int .i64 b.rings, .int .i64 b.sec, .slice A1 b.kinds.length c1, .int .i64 r.eye, .int .i64 r.rings, .int .i64 r.sec, .slice A2 r.kinds.length c2, .slice A3 n3 c3, .int .i64 b.rings, .int .i64 b.sec, .slice none 0 0, .slice none 0 0, .slice none 0 0, .slice none 0 0, .slice none 0 0, .slice none 0 0, .slice none 0 0, .slice none 0 0, .slice none 0 0] 181)
    replace P1 := P1.alloc (.cells #[.int .i64 b.eye, .int .i64 b.rings, .int .i64 b.sec, .slice A1 b.kinds.length c1, .int .i64 r.eye, .int .i64 r.rings, .int .i64 r.sec, .slice A2 r.kinds.length c2, .slice A3 n3 c3, .int .i64 b.rings, .int .i64 b.sec, .slice none 0 0, .slice none 0 0, .slice none 0 0, .slice none 0 0, .slice none 0 0, .slice none 0 0, .slice none 0 0, .slice none 0 0, .slice none 0 0] 181)
    replace Q1 := Q1.alloc (.cells #[.int .i64 b.eye, .int .i64 b.rings, .int .i64 b.sec, .slice A1 b.kinds.length c1, .int .i64 r.eye, .int .i64 r.rings, .int .i64 r.sec, .slice A2 r.kinds.length c2, .slice A3 n3 c3, .int .i64 b.rings, .int .i64 b.sec, .slice none 0 0, .slice none 0 0, .slice none 0 0, .slice none 0 0, .slice none 0 0, .slice none 0 0, .slice none 0 0, .slice none 0 0, .slice none 0 0] 181)
    have hgw : w.heap.size ≤ g := by have := hb1.size; omega
    replace hb1 := hb1.alloc (by omega) (.cells #[.int .i64 b.eye, .int .i64 b.rings, .int .i64 b.sec, .slice A1 b.kinds.length c1, .int .i64 r.eye, .int .i64 r.rings, .int .i64 r.sec, .slice A2 r.kinds.length c2, .slice A3 n3 c3, .int .i64 b.rings, .int .i64 b.sec, .slice none 0 0, .slice none 0 0, .slice none 0 0, .slice none 0 0, .slice none 0 0, .slice none 0 0, .slice none 0 0, .slice none 0 0, .slice none 0 0] 181)
    generalize wc.alloc _ = V at *
    clear hgg
    have HXW := Lib.hid X1
    have p0 := P1.cell 0
    have p1 := P1.cell 1
    have p2 := P1.cell 2
    have p3 := P1.cell 3
    simp at p0 p1 p2 p3
    cases hbo : b.ok with
    | false =>
      rw [hbo] at HV1
      clear hbo
      go_wp2_with (go_at_call 120; refine (HV1.out V hb1).mono ?_; rintro e V2 ⟨rfl, hb2⟩)
      go_ret2
      exact ⟨rfl, hb1.trans (hb2.mono hb1.size)⟩
    | true =>
      rw [hbo] at HV1
      have HBO := Lib.hid hbo
      clear hbo
      go_wp2_with fail
      refine (HV1.out V hb1).mono ?_
      rintro e V2 ⟨rfl, hb2⟩
      have hb12 := hb1.trans (hb2.mono hb1.size)
      replace X1 := X1.keep hb2
      replace F0 := F0.keep hb2
      replace P1 := P1.keep hb2
      replace Q1 := Q1.keep hb2
      clear p0 p1 p2 p3 HXW hb1 hb2
      have q0 := Q1.cell 0
      have q1 := Q1.cell 1
      have q2 := Q1.cell 2
      have q3 := Q1.cell 3
      simp at q0 q1 q2 q3
      cases hro : r.ok with
      | false =>
        rw [hro] at HV2
        clear hro
        go_wp2_with (go_at_call 120; refine (HV2.out V2 hb12).mono ?_; rintro e V3 ⟨rfl, hb3⟩)
        go_ret2
        exact ⟨rfl, hb12.trans (hb3.mono hb12.size)⟩
      | true =>
        rw [hro] at HV2
        have HRO := Lib.hid hro
        clear hro
        go_wp2_with fail
        refine (HV2.out V2 hb12).mono ?_
        rintro e V3 ⟨rfl, hb3⟩
        have hb13 := hb12.trans (hb3.mono hb12.size)
        replace X1 := X1.keep hb3
        replace F0 := F0.keep hb3
        replace P1 := P1.keep hb3
        replace Q1 := Q1.keep hb3
        clear q0 q1 q2 q3 hb12 hb3 HV1 HV2 hbW
        have p0 := P1.cell 0
        have p1 := P1.cell 1
        have p2 := P1.cell 2
        have q0 := Q1.cell 0
        have q1 := Q1.cell 1
        have q2 := Q1.cell 2
        have x8 := X1.cell 8
        simp at p0 p1 p2 q0 q1 q2 x8
        have HCASE : Hid (¬ (b.eye = r.eye ∧ b.rings = r.rings ∧ b.sec = r.sec)) := fun ⟨g1, g2, g3⟩ => by
          have := HBAD.out
          simp [facesOk, HBO.out, HRO.out, g1, g2, g3] at this
        by_cases g1 : b.eye = r.eye
        · have g1' : (b.eye != r.eye) = false := by simp [g1]
          by_cases g2 : b.rings = r.rings
          · have g2' : (b.rings != r.rings) = false := by simp [g2]
            have g3 : b.sec ≠ r.sec := fun h => HCASE.out ⟨g1, g2, h⟩
            have g3' : (b.sec != r.sec) = true := by simp [g3]
            clear g1 g2 g3
            go_wp2_with fail
            go_ret2
            exact ⟨rfl, hb13⟩
          · have g2' : (b.rings != r.rings) = true := by simp [g2]
            clear g1 g2
            go_wp2_with fail
            go_ret2
            exact ⟨rfl, hb13⟩
        · have g1' : (b.eye != r.eye) = true := by simp [g1]
          clear g1
          go_wp2_with fail
          go_ret2
          exact ⟨rfl, hb13⟩
end Go.Proofs.YteihcodicfoiaaaGreat
