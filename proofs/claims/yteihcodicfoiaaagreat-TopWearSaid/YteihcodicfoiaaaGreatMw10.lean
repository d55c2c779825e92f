/-
  What is proved: small laws of memory behind a new block, a draw and far stores.
  What is proved: contracts of tallies.two, tallies.check and slices.Grow at samples; of slices.Concat of two rows of bytes.
  What is proved: the contract of dressing.Need at one sample.
-/
import Derived.Test.YteihcodicfoiaaaGreatMw8
import Derived.Lib.AppendZerosOnto
import Derived.Laws.IdiomStrings
import Derived.BigQuiet
import Derived.Deep.RegionHeld3
import Derived.Deep.DeepCutAuto
namespace Go.Proofs.YteihcodicfoiaaaGreat
open Go.RowKit

theorem keepa {W : World} {b o : Nat} {v : Value} {x : Obj} (h : W.cell? ⟨b, o, none⟩ = some v) : (W.alloc x).cell? ⟨b, o, none⟩ = some v :=
  keepc ((Below.refl _ _).alloc (Nat.le_refl _) _) h
theorem keepad {W : World} {b o : Nat} {v : Value} {x : Obj} (h : W.cell? ⟨b, o, none⟩ = some v) : (W.alloc x).drew.cell? ⟨b, o, none⟩ = some v := keepa h
theorem far1 {w : World} {b o : Nat} {v : Value} {p : Addr} (h : w.cell? ⟨b, o, none⟩ = some v) (hne : b ≠ p.block) (u : Value) : (w.setCell p u).cell? ⟨b, o, none⟩ = some v :=
  (World.cell?_of_block (a := ⟨b, o, none⟩) (Below.heap_setCell w p u b hne)).trans h
theorem far4 {w : World} {b o b' c0 c1 c2 c3 : Nat} {v u0 u1 u2 u3 : Value} (h : w.cell? ⟨b, o, none⟩ = some v) (hne : b ≠ b') : ((((w.setCell ⟨b', c0, none⟩ u0).setCell ⟨b', c1, none⟩ u1).setCell ⟨b', c2, none⟩ u2).setCell ⟨b', c3, none⟩ u3).cell? ⟨b, o, none⟩ = some v :=
  far1 (far1 (far1 (far1 h hne _) hne _) hne _) hne _
theorem make_ints (M : Nat) (hM : M ≤ 256) (X : World) : ∃ X', (Instr.makeSlice 22 (.int .i64 M) (.int .i64 M)).run Tryz.prog X = .ok (.slice (some ⟨X.heap.size, 0, none⟩) M M) X' ∧ Bk X' X.heap.size 3 (intCells (List.replicate M 0)).toArray ∧ Below X.heap.size X X' := by
  obtain ⟨k0, hk0, kz0, kz1, kz2⟩ := info_parts intInfo
  obtain ⟨X', hr, ho, hg⟩ := run_make_full (P := Tryz.prog) X X.heap.size 22 3 k0 _ 1 Tryz.underlying22 hk0 kz0 kz1 .i64 .i64 M (by rw [kz2]; omega) (by unfold maxLen; omega) (Nat.le_refl _)
  rw [made_ints] at ho
  exact ⟨X', hr, own_full ho, ⟨hg.os, hg.tape, hg.output, hg.size, fun k hk => hg.block k hk (by simp)⟩⟩


end Go.Proofs.YteihcodicfoiaaaGreat
namespace Go.Proofs.YteihcodicfoiaaaGreat
open Go.RowKit
attribute [local go_sem ↓] max_int min_int

def u8 (n : Nat) : Value := .int .u8 n

set_option maxRecDepth 100000 in
theorem bytes2_run (W : World) (a b : Value) (ha : a = .int .u8 1 ∨ a = .int .u8 8) (hb : b = .int .u8 0) :
    (Instr.buildSlice 85 2 #[(0, a), (1, b)]).run Tryz.prog W = .ok (.slice (some ⟨W.heap.size, 0, none⟩) 2 2) (W.alloc (.cells #[a, b] 5)) := by
  subst hb
  rcases ha with rfl | rfl <;> kernel_rfl

set_option maxRecDepth 100000 in
set_option maxHeartbeats 2000000 in
theorem two_any (n : Int) (hn : n = 1 ∨ n = 8) (w : World) :
    Calls Tryz.prog 61 #[.int .i64 n] w fun e w' => e = .returned (.slice (some ⟨w.heap.size, 0, none⟩) 2 2) ∧ Bk w' w.heap.size 5 #[.int .u8 n, .int .u8 0] ∧ Below w.heap.size w w' := by
  have B1 := fun W => bytes2_run W (.int .u8 1) (.int .u8 0) (.inl rfl) rfl
  have B8 := fun W => bytes2_run W (.int .u8 8) (.int .u8 0) (.inr rfl) rfl
  have hB : Below w.heap.size w (w.alloc (.cells #[.int .u8 n, .int .u8 0] 5)) := (Below.refl _ _).alloc (Nat.le_refl _) _
  rcases hn with rfl | rfl <;>
  · go_enter Tryz.func61, Tryz.ntmps61
    go_wp2_with fail
    go_ret
    exact ⟨rfl, bk_last rfl, hB⟩

set_option maxRecDepth 100000 in
set_option maxHeartbeats 2000000 in
theorem check_seven (g c : Nat) (w : World) (hg : Bk w g 5 #[.int .u8 7]) :
    Calls Tryz.prog 62 #[.slice (some ⟨g, 0, none⟩) 1 c] w fun e w' => e = .returned (.int .i64 8) ∧ w' = w := by
  have c0 := hg.cell 0
  simp at c0
  clear hg
  go_enter Tryz.func62, Tryz.ntmps62
  go_wp2
  go_loopw [3, 8] (fun v i wr => wr = w ∧ ((v = .int .i64 1 ∧ i = .int .i64 0) ∨ (v = .int .i64 8 ∧ i = .int .i64 1))) (fun _ i _ => 1 - (intOf i).toNat)
  case atStart => exact ⟨rfl, .inl ⟨rfl, rfl⟩⟩
  case round =>
    obtain ⟨rfl, ⟨rfl, rfl⟩ | ⟨rfl, rfl⟩⟩ := hrel
    · go_wp2
      go_wp2
      go_roundw
      case rel => simp
      case measure => decide
    · go_wp2
      go_ret
      exact ⟨rfl, rfl⟩

set_option maxRecDepth 100000 in
theorem hash_nil (w : World) : Calls Tryz.prog 15 #[.slice none 0 0] w fun e w' => e = .returned (.int .i64 11) ∧ w' = w := by
  go_enter Tryz.func15, Tryz.ntmps15
  go_wp2
  go_loopw [3, 8] (fun v i wr => wr = w ∧ v = .int .i64 11 ∧ i = .int .i64 0) (fun _ i _ => 1 - (intOf i).toNat)
  case atStart => exact ⟨rfl, rfl, rfl⟩
  case round =>
    obtain ⟨rfl, rfl, rfl⟩ := hrel
    go_wp2
    go_ret
    exact ⟨rfl, rfl⟩

theorem u8Info : (Tryz.prog.info? 5).map (fun i => (i.zero, i.size, i.bytes)) = some (some (.int .u8 0), 1, 1) := by kernel_rfl

theorem zero_u8 (n : Nat) : (Builtin.zeroCells (Value.int .u8 0).cells n).size = n := by simp [Builtin.zeroCells, Value.cells]

set_option maxRecDepth 100000 in
set_option maxHeartbeats 4000000 in
theorem grow_nil (n : Nat) (h0 : 0 < n) (hn : n ≤ 100) (w : World) :
    Calls Tryz.prog 101 #[.slice none 0 0, .int .i64 n] w fun e w' => ∃ v, e = .returned v ∧ w'.ownsRow w.heap.size 5 1 v 0 [] ∧ Below w.heap.size w w' := by
  obtain ⟨i0, hi0, hz0, hz1, hz2⟩ := info_parts u8Info
  have hrz : ∀ ty, (Builtin.append_ #[85, 3] ty #[.slice none 0 0, .int .i64 (n : Int)]).run Tryz.prog w =
      .ok (.slice (some ⟨w.heap.size, 0, none⟩) n (grownCap w n 0 5)) (w.drew.alloc (.cells (Builtin.zeroCells (Value.int .u8 0).cells n ++ Builtin.zeroCells (Value.int .u8 0).cells (grownCap w n 0 5 - n)) 5)) := fun ty =>
    Lib.run_append_nil_zeros w 85 3 ty 5 i0 (.int .u8 0) .i64 .i64 Tryz.underlying85 Tryz.underlying3 hi0 hz0 n h0 (by rw [hz1]; decide) (by omega) (by rw [hz2]; omega)
  have hG : n ≤ grownCap w n 0 5 := grownCap_ge w _ _ _
  have hG2 : grownCap w n 0 5 ≤ maxLen := grownCap_le_maxLen w n 0 5 (by unfold maxLen; omega)
  generalize grownCap w n 0 5 = G at *
  have hG63 : G ≤ 9223372036854775807 := by unfold maxLen at hG2; omega
  have h1 : ¬ ((n : Int) < 0) := by omega
  have h4 : ((n : Int) > 0) := by omega
  have hown : World.ownsRow (w.drew.alloc (.cells (Builtin.zeroCells (Value.int .u8 0).cells n ++ Builtin.zeroCells (Value.int .u8 0).cells (G - n)) 5)) w.heap.size 5 1 (.slice (some ⟨w.heap.size, 0, none⟩) 0 G) 0 [] := by
    refine ⟨rfl, .inr ⟨w.heap.size, G, _, rfl, Nat.le_refl _, heap_alloc_new w.drew _, Nat.zero_le _, hG2, ?_, rfl⟩⟩
    rw [Array.size_append, zero_u8, zero_u8]
    omega
  have hB : Below w.heap.size w (w.drew.alloc (.cells (Builtin.zeroCells (Value.int .u8 0).cells n ++ Builtin.zeroCells (Value.int .u8 0).cells (G - n)) 5)) := ((Below.refl _ _).drew).alloc (Nat.le_refl _) _
  go_enter Tryz.func101, Tryz.ntmps101
  go_wp2_with (at_builtin; refine Lib.wpList_append_run _ rfl _ _ _ _ rfl _ _ rfl rfl _ _ (hrz _) ?_)
  all_goals (go_ret; exact ⟨_, rfl, hown, hB⟩)

set_option maxRecDepth 100000 in
set_option maxHeartbeats 4000000 in
theorem concat_21 (g g1 g2 c c1 c2 : Nat) (a0 a1 b0 : Int) (w : World)
    (hg : Bk w g 85 #[.slice (some ⟨g1, 0, none⟩) 2 c1, .slice (some ⟨g2, 0, none⟩) 1 c2]) (hg1 : Bk w g1 5 #[.int .u8 a0, .int .u8 a1]) (hg2 : Bk w g2 5 #[.int .u8 b0]) :
    Calls Tryz.prog 60 #[.slice (some ⟨g, 0, none⟩) 2 c] w fun e w' => ∃ v, e = .returned v ∧ w'.ownsRow w.heap.size 5 1 v 3 [.int .u8 a0, .int .u8 a1, .int .u8 b0] ∧ Below w.heap.size w w' := by
  obtain ⟨i0, hi0, hz0, hz1, hz2⟩ := info_parts u8Info
  have k0 := hg.cell 0
  have k1 := hg.cell 1
  simp at k0 k1
  have E := Lib.hid (And.intro hg (And.intro hg1 hg2))
  clear hg hg1 hg2
  go_enter Tryz.func60, Tryz.ntmps60
  go_wp2
  go_loopw [3, 11] (fun v i wr => w = wr ∧ ((v = .int .i64 0 ∧ i = .int .i64 0) ∨ (v = .int .i64 2 ∧ i = .int .i64 1) ∨ (v = .int .i64 3 ∧ i = .int .i64 2))) (fun _ i _ => 2 - (intOf i).toNat)
  case atStart => exact ⟨rfl, .inl ⟨rfl, rfl⟩⟩
  case round =>
    obtain ⟨rfl, ⟨rfl, rfl⟩ | ⟨rfl, rfl⟩ | ⟨rfl, rfl⟩⟩ := hrel
    · go_wp2
      go_wp2
      go_roundw
      case rel => simp
      case measure => decide
    · go_wp2
      go_wp2
      go_roundw
      case rel => simp
      case measure => decide
    · go_wp2_with (go_at_call 101; refine (grow_nil 3 (by decide) (by decide) _).mono ?_; rintro e w1 ⟨v0, rfl, hown, hB⟩)
      go_loopw [6, 27] (fun v i wr2 => Below w.heap.size w wr2 ∧ ((i = .int .i64 0 ∧ wr2.ownsRow w.heap.size 5 1 v 0 []) ∨ (i = .int .i64 1 ∧ wr2.ownsRow w.heap.size 5 1 v 2 [.int .u8 a0, .int .u8 a1]) ∨ (i = .int .i64 2 ∧ wr2.ownsRow w.heap.size 5 1 v 3 [.int .u8 a0, .int .u8 a1, .int .u8 b0]))) (fun _ i _ => 2 - (intOf i).toNat)
      case atStart => exact ⟨hB, .inl ⟨rfl, hown⟩⟩
      case round =>
        clear hown hB
        obtain ⟨hB, ⟨rfl, hown⟩ | ⟨rfl, hown⟩ | ⟨rfl, hown⟩⟩ := hrel
        · obtain ⟨hg, hg1, hg2⟩ := E.out
          have m0 := (hg.keep hB).cell 0
          have x0 := (hg1.keep hB).cell 0
          have x1 := (hg1.keep hB).cell 1
          simp at m0 x0 x1
          clear hg hg1 hg2
          go_wp2_with (at_builtin; refine wpList_append_own _ rfl _ _ 85 rfl w.heap.size 5 i0 _ 1 1 Tryz.underlying85 hi0 hz0 hz1 hz2 rfl (by decide) _ _ _ rfl hown ⟨g1, 0, none⟩ 2 c1 [.int .u8 a0, .int .u8 a1] rfl rfl (by intro j u hj; match j with | 0 => simp at hj; subst hj; (rw [add_at]; exact x0) | 1 => simp at hj; subst hj; (rw [add_at]; exact x1) | j + 2 => simp at hj) (by simp [Value.oneCell']) (by unfold maxLen; omega) (by omega) hB.size ?_; intro v' w2 hown' hgr _)
          have hB2 := hB.grown hgr hB.size (fun g hg' => (hown.lt g hg').1)
          clear hgr hown hB
          go_wp2
          go_roundw
          case rel => exact ⟨hB2, .inr (.inl ⟨rfl, hown'⟩)⟩
          case measure => decide
        · obtain ⟨hg, hg1, hg2⟩ := E.out
          have m1 := (hg.keep hB).cell 1
          have x0 := (hg2.keep hB).cell 0
          simp at m1 x0
          clear hg hg1 hg2
          go_wp2_with (at_builtin; refine wpList_append_own _ rfl _ _ 85 rfl w.heap.size 5 i0 _ 1 1 Tryz.underlying85 hi0 hz0 hz1 hz2 rfl (by decide) _ _ _ rfl hown ⟨g2, 0, none⟩ 1 c2 [.int .u8 b0] rfl rfl (by intro j u hj; match j with | 0 => simp at hj; subst hj; (rw [add_at]; exact x0) | j + 1 => simp at hj) (by simp [Value.oneCell']) (by unfold maxLen; omega) (by omega) hB.size ?_; intro v' w2 hown' hgr _)
          have hB2 := hB.grown hgr hB.size (fun g hg' => (hown.lt g hg').1)
          clear hgr hown hB
          go_wp2
          go_roundw
          case rel => exact ⟨hB2, .inr (.inr ⟨rfl, hown'⟩)⟩
          case measure => decide
        · go_wp2
          go_ret
          exact ⟨_, rfl, hown, hB⟩

set_option maxRecDepth 100000 in
set_option maxHeartbeats 4000000 in
theorem concat_22 (g g1 g2 c c1 c2 : Nat) (a0 a1 b0 b1 : Int) (w : World)
    (hg : Bk w g 85 #[.slice (some ⟨g1, 0, none⟩) 2 c1, .slice (some ⟨g2, 0, none⟩) 2 c2]) (hg1 : Bk w g1 5 #[.int .u8 a0, .int .u8 a1]) (hg2 : Bk w g2 5 #[.int .u8 b0, .int .u8 b1]) :
    Calls Tryz.prog 60 #[.slice (some ⟨g, 0, none⟩) 2 c] w fun e w' => ∃ v, e = .returned v ∧ w'.ownsRow w.heap.size 5 1 v 4 [.int .u8 a0, .int .u8 a1, .int .u8 b0, .int .u8 b1] ∧ Below w.heap.size w w' := by
  obtain ⟨i0, hi0, hz0, hz1, hz2⟩ := info_parts u8Info
  have k0 := hg.cell 0
  have k1 := hg.cell 1
  simp at k0 k1
  have E := Lib.hid (And.intro hg (And.intro hg1 hg2))
  clear hg hg1 hg2
  go_enter Tryz.func60, Tryz.ntmps60
  go_wp2
  go_loopw [3, 11] (fun v i wr => w = wr ∧ ((v = .int .i64 0 ∧ i = .int .i64 0) ∨ (v = .int .i64 2 ∧ i = .int .i64 1) ∨ (v = .int .i64 4 ∧ i = .int .i64 2))) (fun _ i _ => 2 - (intOf i).toNat)
  case atStart => exact ⟨rfl, .inl ⟨rfl, rfl⟩⟩
  case round =>
    obtain ⟨rfl, ⟨rfl, rfl⟩ | ⟨rfl, rfl⟩ | ⟨rfl, rfl⟩⟩ := hrel
    · go_wp2
      go_wp2
      go_roundw
      case rel => simp
      case measure => decide
    · go_wp2
      go_wp2
      go_roundw
      case rel => simp
      case measure => decide
    · go_wp2_with (go_at_call 101; refine (grow_nil 4 (by decide) (by decide) _).mono ?_; rintro e w1 ⟨v0, rfl, hown, hB⟩)
      go_loopw [6, 27] (fun v i wr2 => Below w.heap.size w wr2 ∧ ((i = .int .i64 0 ∧ wr2.ownsRow w.heap.size 5 1 v 0 []) ∨ (i = .int .i64 1 ∧ wr2.ownsRow w.heap.size 5 1 v 2 [.int .u8 a0, .int .u8 a1]) ∨ (i = .int .i64 2 ∧ wr2.ownsRow w.heap.size 5 1 v 4 [.int .u8 a0, .int .u8 a1, .int .u8 b0, .int .u8 b1]))) (fun _ i _ => 2 - (intOf i).toNat)
      case atStart => exact ⟨hB, .inl ⟨rfl, hown⟩⟩
      case round =>
        clear hown hB
        obtain ⟨hB, ⟨rfl, hown⟩ | ⟨rfl, hown⟩ | ⟨rfl, hown⟩⟩ := hrel
        · obtain ⟨hg, hg1, hg2⟩ := E.out
          have m0 := (hg.keep hB).cell 0
          have x0 := (hg1.keep hB).cell 0
          have x1 := (hg1.keep hB).cell 1
          simp at m0 x0 x1
          clear hg hg1 hg2
          go_wp2_with (at_builtin; refine wpList_append_own _ rfl _ _ 85 rfl w.heap.size 5 i0 _ 1 1 Tryz.underlying85 hi0 hz0 hz1 hz2 rfl (by decide) _ _ _ rfl hown ⟨g1, 0, none⟩ 2 c1 [.int .u8 a0, .int .u8 a1] rfl rfl (by intro j u hj; match j with | 0 => simp at hj; subst hj; (rw [add_at]; exact x0) | 1 => simp at hj; subst hj; (rw [add_at]; exact x1) | j + 2 => simp at hj) (by simp [Value.oneCell']) (by unfold maxLen; omega) (by omega) hB.size ?_; intro v' w2 hown' hgr _)
          have hB2 := hB.grown hgr hB.size (fun g hg' => (hown.lt g hg').1)
          clear hgr hown hB
          go_wp2
          go_roundw
          case rel => exact ⟨hB2, .inr (.inl ⟨rfl, hown'⟩)⟩
          case measure => decide
        · obtain ⟨hg, hg1, hg2⟩ := E.out
          have m1 := (hg.keep hB).cell 1
          have x0 := (hg2.keep hB).cell 0
          have x1 := (hg2.keep hB).cell 1
          simp at m1 x0 x1
          clear hg hg1 hg2
          go_wp2_with (at_builtin; refine wpList_append_own _ rfl _ _ 85 rfl w.heap.size 5 i0 _ 1 1 Tryz.underlying85 hi0 hz0 hz1 hz2 rfl (by decide) _ _ _ rfl hown ⟨g2, 0, none⟩ 2 c2 [.int .u8 b0, .int .u8 b1] rfl rfl (by intro j u hj; match j with | 0 => simp at hj; subst hj; (rw [add_at]; exact x0) | 1 => simp at hj; subst hj; (rw [add_at]; exact x1) | j + 2 => simp at hj) (by simp [Value.oneCell']) (by unfold maxLen; omega) (by omega) hB.size ?_; intro v' w2 hown' hgr _)
          have hB2 := hB.grown hgr hB.size (fun g hg' => (hown.lt g hg').1)
          clear hgr hown hB
          go_wp2
          go_roundw
          case rel => exact ⟨hB2, .inr (.inr ⟨rfl, hown'⟩)⟩
          case measure => decide
        · go_wp2
          go_ret
          exact ⟨_, rfl, hown, hB⟩


theorem own_mono {w : World} {a b : Nat} {e : TypeId} {size : Nat} {v : Value} {n : Nat} {xs : List Value} (h : w.ownsRow a e size v n xs) (hab : b ≤ a) : w.ownsRow b e size v n xs := by
  obtain ⟨h1, h2 | ⟨g, cap, cur, h2, h3, h4⟩⟩ := h
  · exact ⟨h1, .inl h2⟩
  · exact ⟨h1, .inr ⟨g, cap, cur, h2, by omega, h4⟩⟩

set_option maxRecDepth 100000 in
theorem rows2_run (W : World) (a b : Value) (g1 g2 c1 c2 n1 n2 : Nat) (ha : a = .slice (some ⟨g1, 0, none⟩) n1 c1) (hb : b = .slice (some ⟨g2, 0, none⟩) n2 c2) :
    (Instr.buildSlice 219 2 #[(0, a), (1, b)]).run Tryz.prog W = .ok (.slice (some ⟨W.heap.size, 0, none⟩) 2 2) (W.alloc (.cells #[a, b] 85)) := by
  subst hb
  subst ha
  kernel_rfl

set_option maxRecDepth 100000 in
set_option maxHeartbeats 4000000 in
theorem halves_seven (g c : Nat) (w : World) (hg : Bk w g 5 #[.int .u8 7]) :
    Calls Tryz.prog 30 #[.slice (some ⟨g, 0, none⟩) 1 c] w fun e w' => ∃ v u, e = .returned (.tuple #[v, u]) ∧ w'.ownsRow w.heap.size 5 1 u 4 [.int .u8 1, .int .u8 0, .int .u8 8, .int .u8 0] ∧ Below w.heap.size w w' := by
  have B := fun W g1 g2 c1 c2 n1 n2 => rows2_run W (.slice (some ⟨g1, 0, none⟩) n1 c1) (.slice (some ⟨g2, 0, none⟩) n2 c2) g1 g2 c1 c2 n1 n2 rfl rfl
  go_enter Tryz.func30, Tryz.ntmps30
  go_wp2_with fail
  refine (two_any 1 (.inl rfl) _).mono ?_
  rintro e w1 ⟨rfl, hr1, hb1⟩
  have hg1 := hg.keep hb1
  go_wp2_with fail
  refine (concat_21 w1.heap.size w.heap.size g 2 2 c 1 0 7 _ (bk_last rfl) (hr1.alloc _) (hg1.alloc _)).mono ?_
  rintro e w2 ⟨v, rfl, _, hb2⟩
  have hB1 : Below w.heap.size w w2 := (hb1.alloc hb1.size _).trans (hb2.mono (by have := hb1.size; simp; omega))
  have hg2 := (hg1.alloc _).keep hb2
  clear hb2 hg1 hr1 hb1 hg
  go_wp2_with fail
  refine (two_any 1 (.inl rfl) _).mono ?_
  rintro e w3 ⟨rfl, hr3, hb3⟩
  have hB3 := hB1.trans (hb3.mono hB1.size)
  have hg3 := hg2.keep hb3
  clear hg2 hb3
  go_wp2_with fail
  refine (check_seven g c _ hg3).mono ?_
  rintro e w4 ⟨rfl, rfl⟩
  go_wp2_with fail
  refine (two_any 8 (.inr rfl) _).mono ?_
  rintro e w5 ⟨rfl, hr5, hb5⟩
  have hB5 := hB3.trans (hb5.mono hB3.size)
  have hr3 := hr3.keep hb5
  clear hg3 hb5 hB3
  go_wp2_with fail
  refine (concat_22 w5.heap.size w2.heap.size w4.heap.size 2 2 2 1 0 8 0 _ (bk_last rfl) (hr3.alloc _) (hr5.alloc _)).mono ?_
  rintro e w6 ⟨u, rfl, hown, hb6⟩
  have hz := hB5.size
  have hB6 : Below w.heap.size w w6 := (hB5.alloc hB5.size _).trans (hb6.mono (by simp; omega))
  have hown' : w6.ownsRow w.heap.size 5 1 u 4 [.int .u8 1, .int .u8 0, .int .u8 8, .int .u8 0] := own_mono hown (by simp; omega)
  clear hown hb6 hB5 hr3 hr5
  go_wp2_with fail
  exact bodyPost_ret (v := .tuple #[v, u]) (by simp [results, Tryz.results30, go_sem]) rfl ⟨v, u, rfl, hown', hB6⟩

set_option maxRecDepth 100000 in
set_option maxHeartbeats 4000000 in
theorem notch_seven (g c : Nat) (w : World) (hg : Bk w g 5 #[.int .u8 7]) :
    Calls Tryz.prog 14 #[.slice (some ⟨g, 0, none⟩) 1 c] w fun e w' => ∃ v u, e = .returned (.tuple #[v, u, .int .i64 0]) ∧ w'.ownsRow w.heap.size 5 1 u 4 [.int .u8 1, .int .u8 0, .int .u8 8, .int .u8 0] ∧ Below w.heap.size w w' := by
  have HH := Lib.hid (halves_seven g c w hg)
  clear hg
  go_enter Tryz.func14, Tryz.ntmps14
  go_wp2_with fail
  refine HH.out.mono ?_
  rintro e w1 ⟨v, u, rfl, hown, hB⟩
  go_wp2_with fail
  exact bodyPost_ret (v := .tuple #[v, u, .int .i64 0]) (by simp [results, Tryz.results14, go_sem]) rfl ⟨v, u, rfl, hown, hB⟩
end Go.Proofs.YteihcodicfoiaaaGreat
namespace Go.Proofs.YteihcodicfoiaaaGreat
open Go.RowKit
attribute [local go_sem ↓] max_int min_int

def spCells (l : List (Int × Int)) : List Value := l.flatMap fun x => [.int .i64 x.1, .int .i64 x.2]
def spanBad (lo hi : Int) (s : Int × Int) : Bool := decide (s.1 < lo) || decide (s.1 > s.2) || decide (s.2 > hi)

set_option maxRecDepth 100000 in
set_option maxHeartbeats 2000000 in
theorem spanBad_any (lo hi : Int) (q1 q2 : Nat) (s : Int × Int) (w : World) (h1 : Bk w q1 3 #[.int .i64 lo]) (h2 : Bk w q2 3 #[.int .i64 hi]) :
    Calls Tryz.prog 99 #[.agg #[.int .i64 s.1, .int .i64 s.2], .pointer (some ⟨q1, 0, none⟩), .pointer (some ⟨q2, 0, none⟩)] w fun e w' => e = .returned (.bool (spanBad lo hi s)) ∧ Below w.heap.size w w' := by
  obtain ⟨a, b⟩ := s
  simp only [spanBad]
  obtain ⟨W, hW⟩ : ∃ W, w.alloc (.cells #[.int .i64 a, .int .i64 b] 29) = W := ⟨_, rfl⟩
  have hbW : Below w.heap.size w W := by rw [← hW]; exact (Below.refl _ _).alloc (Nat.le_refl _) _
  have Y : Bk W w.heap.size 29 #[.int .i64 a, .int .i64 b] := by rw [← hW]; exact bk_last rfl
  have y0 := Y.cell 0
  have y1 := Y.cell 1
  have x1 := (h1.keep hbW).cell 0
  have x2 := (h2.keep hbW).cell 0
  simp at y0 y1 x1 x2
  have HW := Lib.hid hW
  clear hW Y h1 h2
  by_cases c1 : a < lo
  · go_enter Tryz.func99, Tryz.ntmps99
    go_upto_region 1 with fail
    rw [HW.out]
    clear HW
    go_wp2_with fail
    go_ret
    exact ⟨ret_bool (by simp [c1]), hbW⟩
  · by_cases c2 : b < a
    · go_enter Tryz.func99, Tryz.ntmps99
      go_upto_region 1 with fail
      rw [HW.out]
      clear HW
      go_wp2_with fail
      go_ret
      exact ⟨ret_bool (by simp [c2]), hbW⟩
    · go_enter Tryz.func99, Tryz.ntmps99
      go_upto_region 1 with fail
      rw [HW.out]
      clear HW
      go_wp2_with fail
      go_ret
      exact ⟨ret_bool (by simp [show ¬ a < lo by omega, show ¬ b < a by omega]), hbW⟩

/-- The first span that is bad, or -1. -/
def firstSpan (bad : Int × Int → Bool) (l : List (Int × Int)) : Int := match l.findIdx? bad with | some i => i | none => -1
theorem firstSpan_hit (bad : Int × Int → Bool) (l : List (Int × Int)) (k : Nat) (hk : k < l.length) (h : ∀ j, j < k → bad (l.getD j (0, 0)) = false) (hb : bad (l.getD k (0, 0)) = true) : firstSpan bad l = k := by
  have e : l.findIdx? bad = some k := by
    rw [List.findIdx?_eq_some_iff_getElem]
    refine ⟨hk, by rw [getD_get _ _ hk] at hb; exact hb, fun j hj => ?_⟩
    have := h j hj
    rw [getD_get _ _ (by omega)] at this
    simp [this]
  simp [firstSpan, e]
theorem firstSpan_none (bad : Int × Int → Bool) (l : List (Int × Int)) (h : ∀ j, j < l.length → bad (l.getD j (0, 0)) = false) : firstSpan bad l = -1 := by
  have e : l.findIdx? bad = none := by
    rw [List.findIdx?_eq_none_iff]
    intro m hm
    obtain ⟨j, hj, rfl⟩ := List.getElem_of_mem hm
    have := h j hj
    rw [getD_get _ _ hj] at this
    simp [this]
  simp [firstSpan, e]
theorem firstSpan_any (bad : Int × Int → Bool) (l : List (Int × Int)) : decide (firstSpan bad l ≥ 0) = l.any bad := by
  unfold firstSpan
  cases e : l.findIdx? bad with
  | none =>
    rw [List.findIdx?_eq_none_iff] at e
    have h : l.any bad = false := by rw [List.any_eq_false]; intro m hm; simpa using e m hm
    simp [h]
  | some i =>
    rw [List.findIdx?_eq_some_iff_getElem] at e
    obtain ⟨hi, h1, _⟩ := e
    have h : l.any bad = true := by
      rw [List.any_eq_true]
      exact ⟨l[i], List.getElem_mem hi, h1⟩
    simp [h]
theorem sp_row {w : World} {A : Option Addr} {l : List (Int × Int)} (h : RowAt w A (spCells l)) (h0 : 0 < l.length) :
    ∃ b off, A = some ⟨b, off, none⟩ ∧ b < w.heap.size ∧ ∀ k, k < l.length → w.cell? ⟨b, off + k * 2, none⟩ = some (.int .i64 (l.getD k (0, 0)).1) ∧ w.cell? ⟨b, off + k * 2 + 1, none⟩ = some (.int .i64 (l.getD k (0, 0)).2) := by
  have hl : (spCells l).length = l.length * 2 := flat_len _ 2 (fun _ => rfl) l
  obtain ⟨b, off, h1, h2, h3⟩ := h.some_ (by omega)
  refine ⟨b, off, h1, h2, fun k hk => ?_⟩
  have e := fun j (hj : j < 2) => flat_get (fun x : Int × Int => [Value.int .i64 x.1, Value.int .i64 x.2]) 2 (fun _ => rfl) (by omega) l k j hk hj
  rw [getD_get _ _ hk]
  refine ⟨h3 _ _ (e 0 (by omega)), ?_⟩
  rw [Nat.add_assoc]; exact h3 _ _ (e 1 (by omega))

set_option maxRecDepth 100000 in
set_option maxHeartbeats 4000000 in
theorem index87_any (lo hi : Int) (q1 q2 : Nat) (A : Option Addr) (c : Nat) (l : List (Int × Int)) (w : World) (hL : RowAt w A (spCells l)) (h1 : Bk w q1 3 #[.int .i64 lo]) (h2 : Bk w q2 3 #[.int .i64 hi]) (hn : l.length ≤ 1000) :
    Calls Tryz.prog 149 #[.slice A l.length c, .func (.func 99) #[] #[.pointer (some ⟨q1, 0, none⟩), .pointer (some ⟨q2, 0, none⟩)]] w fun e w' => e = .returned (.int .i64 (firstSpan (spanBad lo hi) l)) ∧ Below w.heap.size w w' := by
  have HL := Lib.hid hL
  have HB2 := Lib.hid (fun (x : Int × Int) (X : World) (h : Below w.heap.size w X) => spanBad_any lo hi q1 q2 x X (h1.keep h) (h2.keep h))
  clear hL h1 h2
  have hB0 := Below.refl w.heap.size w
  generalize spanBad lo hi = bad at *
  go_enter Tryz.func149, Tryz.ntmps149
  go_wp2_with fail
  go_loopw [8] (fun i wr => ∃ k : Nat, k ≤ l.length ∧ i = .int .i64 k ∧ Below w.heap.size w wr ∧ Hid (∀ j, j < k → bad (l.getD j (0, 0)) = false)) (fun i _ => l.length - (intOf i).toNat)
  case atStart => exact ⟨0, Nat.zero_le _, rfl, hB0, fun j h => absurd h (by omega)⟩
  case round =>
    obtain ⟨k, hk, rfl, hBr, hall⟩ := hrel
    by_cases hlt : k < l.length
    · obtain ⟨b5, o5, hA, hb5, hc5⟩ := sp_row (HL.out.below hBr) (by omega)
      obtain ⟨c0, c1⟩ := hc5 k hlt
      have HALL := Lib.hid (fun (hg : bad (l.getD k (0, 0)) = false) j (hj : j < k + 1) => show bad (l.getD j (0, 0)) = false by
        rcases Nat.lt_or_ge j k with h | h
        · exact hall.out j h
        · obtain rfl : j = k := by omega
          exact hg)
      have HH := Lib.hid (fun (hg : bad (l.getD k (0, 0)) = true) => firstSpan_hit bad l k hlt hall.out hg)
      have HBK := Lib.hid (HB2.out (l.getD k (0, 0)) wr hBr)
      clear hc5 hall hB0
      rw [hA]
      clear hA
      generalize l.getD k (0, 0) = x at *
      cases hb : bad x
      · have HX := Lib.hid hb
        rw [hb] at HBK
        clear hb
        go_wp2_with (go_at_call 99; refine (HBK.out).mono ?_; rintro e w1 ⟨rfl, hb1⟩)
        have hB1 := hBr.trans (hb1.mono hBr.size)
        go_roundw
        case rel => exact ⟨k + 1, by omega, by go_num, hB1, HALL.out HX.out⟩
        case measure => simp [intOf]; omega
      · have HX := Lib.hid hb
        rw [hb] at HBK
        clear hb
        go_wp2_with (go_at_call 99; refine (HBK.out).mono ?_; rintro e w1 ⟨rfl, hb1⟩)
        have hB1 := hBr.trans (hb1.mono hBr.size)
        go_ret
        exact ⟨ret_int (HH.out HX.out).symm, hB1⟩
    · have : k = l.length := by omega
      subst this
      have HE := Lib.hid (firstSpan_none bad l hall.out)
      clear hall
      go_wp2
      go_ret
      exact ⟨ret_int HE.out.symm, hBr⟩

theorem contains74_any (lo hi : Int) (q1 q2 : Nat) (A : Option Addr) (c : Nat) (l : List (Int × Int)) (w : World) (hL : RowAt w A (spCells l)) (h1 : Bk w q1 3 #[.int .i64 lo]) (h2 : Bk w q2 3 #[.int .i64 hi]) (hn : l.length ≤ 1000) :
    Calls Tryz.prog 98 #[.slice A l.length c, .func (.func 99) #[] #[.pointer (some ⟨q1, 0, none⟩), .pointer (some ⟨q2, 0, none⟩)]] w fun e w' => e = .returned (.bool (l.any (spanBad lo hi))) ∧ Below w.heap.size w w' := by
  have HC := Lib.hid (index87_any lo hi q1 q2 A c l w hL h1 h2 hn)
  have HA := Lib.hid (firstSpan_any (spanBad lo hi) l)
  generalize firstSpan (spanBad lo hi) l = n at *
  go_enter Tryz.func98, Tryz.ntmps98
  go_wp2_with (go_at_call 149; refine (HC.out).mono ?_; rintro e w1 ⟨rfl, hb1⟩)
  go_ret
  exact ⟨ret_bool HA.out, hb1⟩

set_option maxRecDepth 100000 in
set_option maxHeartbeats 2000000 in
theorem spanned_any (lo hi : Int) (A : Option Addr) (c : Nat) (l : List (Int × Int)) (w : World) (hL : RowAt w A (spCells l)) (hn : l.length ≤ 1000) :
    Calls Tryz.prog 53 #[.int .i64 lo, .int .i64 hi, .slice A l.length c] w fun e w' => e = .returned (.bool (!l.any (spanBad lo hi))) ∧ Below w.heap.size w w' := by
  obtain ⟨W, hW⟩ : ∃ W, (w.alloc (.cells #[.int .i64 lo] 3)).alloc (.cells #[.int .i64 hi] 3) = W := ⟨_, rfl⟩
  have hbW : Below w.heap.size w W := by rw [← hW]; exact ((Below.refl _ _).alloc (Nat.le_refl _) _).alloc (by simp) _
  have X := (show Bk W w.heap.size 3 #[.int .i64 lo] by rw [← hW]; exact (bk_last rfl).alloc _)
  have Y := (show Bk W (w.heap.size + 1) 3 #[.int .i64 hi] by rw [← hW]; exact bk_last (by simp))
  have HC := Lib.hid (contains74_any lo hi w.heap.size (w.heap.size + 1) A c l W (hL.below hbW) X Y hn)
  have HW := Lib.hid hW
  clear hW X Y hL
  generalize l.any (spanBad lo hi) = bb at *
  go_enter Tryz.func53, Tryz.ntmps53
  go_upto_region 1 with fail
  rw [HW.out]
  clear HW
  go_wp2_with (go_at_call 98; refine (HC.out).mono ?_; rintro e w1 ⟨rfl, hb1⟩)
  go_ret
  exact ⟨rfl, hbW.trans (hb1.mono hbW.size)⟩
theorem isHeight_any (A : Option Addr) (c : Nat) (l : List (Int × Int)) (w : World) (hL : RowAt w A (spCells l)) (hn : l.length ≤ 1000) :
    Calls Tryz.prog 24 #[.slice A l.length c] w fun e w' => e = .returned (.bool (!l.any (spanBad (-1000000000) 1000000000))) ∧ Below w.heap.size w w' := by
  have HC := Lib.hid (spanned_any (-1000000000) 1000000000 A c l w hL hn)
  generalize l.any (spanBad (-1000000000) 1000000000) = bb at *
  go_enter Tryz.func24, Tryz.ntmps24
  go_wp2_with (go_at_call 53; refine (HC.out).mono ?_; rintro e w1 ⟨rfl, hb1⟩)
  go_ret
  exact ⟨rfl, hb1⟩
theorem isDepth_any (A : Option Addr) (c : Nat) (l : List (Int × Int)) (w : World) (hL : RowAt w A (spCells l)) (hn : l.length ≤ 1000) :
    Calls Tryz.prog 25 #[.slice A l.length c] w fun e w' => e = .returned (.bool (!l.any (spanBad 1 1000000000))) ∧ Below w.heap.size w w' := by
  have HC := Lib.hid (spanned_any 1 1000000000 A c l w hL hn)
  generalize l.any (spanBad 1 1000000000) = bb at *
  go_enter Tryz.func25, Tryz.ntmps25
  go_wp2_with (go_at_call 53; refine (HC.out).mono ?_; rintro e w1 ⟨rfl, hb1⟩)
  go_ret
  exact ⟨rfl, hb1⟩
theorem up_42 (w : World) : Calls Tryz.prog 26 #[.int .i64 4, .int .i64 2] w fun e w' => e = .returned (.int .i64 2) ∧ w = w' := by
  go_enter Tryz.func26, Tryz.ntmps26
  go_wp2_with fail
  go_ret
  exact ⟨rfl, rfl⟩

theorem buildSpans (W : World) (a b c d : Int) :
    (Instr.buildSlice 30 2 #[(0, .agg #[.int .i64 a, .int .i64 b]), (1, .agg #[.int .i64 c, .int .i64 d])]).run Tryz.prog W = .ok (.slice (some ⟨W.heap.size, 0, none⟩) 2 2) (W.alloc (.cells #[.int .i64 a, .int .i64 b, .int .i64 c, .int .i64 d] 29)) := by kernel_rfl
theorem buildSpan (W : World) (a b : Int) :
    (Instr.buildSlice 30 1 #[(0, .agg #[.int .i64 a, .int .i64 b])]).run Tryz.prog W = .ok (.slice (some ⟨W.heap.size, 0, none⟩) 1 1) (W.alloc (.cells #[.int .i64 a, .int .i64 b] 29)) := by kernel_rfl

set_option maxRecDepth 100000 in
set_option maxHeartbeats 8000000 in
theorem need_sample (w : World) :
    Calls Tryz.prog 12 #[.agg #[.int .i64 11, .int .i64 12], .agg #[.int .i64 0, .int .i64 8], .agg #[.int .i64 2, .int .i64 2]] w fun e w' => e = .returned (.tuple #[.agg #[.int .i64 2, .int .i64 5], .int .i64 0]) ∧ Below w.heap.size w w' := by
  obtain ⟨W, hW⟩ : ∃ W, (((w.alloc (.cells #[.int .i64 11, .int .i64 12] 29)).alloc (.cells #[.int .i64 0, .int .i64 8] 29)).alloc (.cells #[.int .i64 2, .int .i64 2] 29)).alloc (.cells #[.int .i64 0, .int .i64 0] 29) = W := ⟨_, rfl⟩
  have hbW : Below w.heap.size w W := by rw [← hW]; exact ((((Below.refl _ _).alloc (Nat.le_refl _) _).alloc (by simp) _).alloc (by simp; omega) _).alloc (by simp; omega) _
  have A := (show Bk W w.heap.size 29 #[.int .i64 11, .int .i64 12] by rw [← hW]; exact (((bk_last rfl).alloc _).alloc _).alloc _)
  have B := (show Bk W (w.heap.size + 1) 29 #[.int .i64 0, .int .i64 8] by rw [← hW]; exact ((bk_last (by simp)).alloc _).alloc _)
  have C := (show Bk W (w.heap.size + 1 + 1) 29 #[.int .i64 2, .int .i64 2] by rw [← hW]; exact (bk_last (by simp)).alloc _)
  have R := (show Bk W (w.heap.size + 1 + 1 + 1) 29 #[.int .i64 0, .int .i64 0] by rw [← hW]; exact bk_last (by simp))
  have a0 := A.cell 0
  have a1 := A.cell 1
  have b0 := B.cell 0
  have b1 := B.cell 1
  simp at a0 a1 b0 b1
  have HW := Lib.hid hW
  clear hW
  have hb1 : Below W.heap.size W (W.alloc (.cells #[.int .i64 11, .int .i64 12, .int .i64 0, .int .i64 8] 29)) := (Below.refl _ _).alloc (Nat.le_refl _) _
  have P1 : Bk (W.alloc (.cells #[.int .i64 11, .int .i64 12, .int .i64 0, .int .i64 8] 29)) W.heap.size 29 #[.int .i64 11, .int .i64 12, .int .i64 0, .int .i64 8] := bk_last rfl
  have H26 := Lib.hid (isHeight_any (some ⟨W.heap.size, 0, none⟩) 2 [(11, 12), (0, 8)] _ (fun _ => ⟨W.heap.size, 0, rfl, P1.lt, fun j u hu => by rw [P1.cell, Nat.zero_add]; simpa [spCells] using hu⟩) (by simp))
  have e26 : (!([((11 : Int), (12 : Int)), (0, 8)].any (spanBad (-1000000000) 1000000000))) = true := by decide
  rw [e26] at H26
  have M1 := buildSpans W 11 12 0 8
  go_enter Tryz.func12, Tryz.ntmps12
  go_upto_region 1 with fail
  rw [HW.out]
  clear HW
  go_wp2_with fail
  refine (H26.out).mono ?_
  clear H26 M1 a0 a1 b0 b1 P1 e26
  rintro e w2 ⟨rfl, hb2⟩
  have hb12 := hb1.trans (hb2.mono hb1.size)
  have hB2 := hbW.trans (hb12.mono hbW.size)
  replace A := A.keep hb12
  replace B := B.keep hb12
  replace C := C.keep hb12
  replace R := R.keep hb12
  clear hb1 hb2 hb12 hbW
  have c0 := C.cell 0
  have c1 := C.cell 1
  simp at c0 c1
  have hb1 : Below w2.heap.size w2 (w2.alloc (.cells #[.int .i64 2, .int .i64 2] 29)) := (Below.refl _ _).alloc (Nat.le_refl _) _
  have P1 : Bk (w2.alloc (.cells #[.int .i64 2, .int .i64 2] 29)) w2.heap.size 29 #[.int .i64 2, .int .i64 2] := bk_last rfl
  have H27 := Lib.hid (isDepth_any (some ⟨w2.heap.size, 0, none⟩) 1 [(2, 2)] _ (fun _ => ⟨w2.heap.size, 0, rfl, P1.lt, fun j u hu => by rw [P1.cell, Nat.zero_add]; simpa [spCells] using hu⟩) (by simp))
  have e27 : (!([((2 : Int), (2 : Int))].any (spanBad 1 1000000000))) = true := by decide
  rw [e27] at H27
  have M1 := buildSpan w2 2 2
  go_wp2_with fail
  refine (H27.out).mono ?_
  clear H27 M1 c0 c1 P1 e27
  rintro e w3 ⟨rfl, hb3⟩
  have hb12 := hb1.trans (hb3.mono hb1.size)
  have hB3 := hB2.trans (hb12.mono hB2.size)
  replace A := A.keep hb12
  replace B := B.keep hb12
  replace C := C.keep hb12
  replace R := R.keep hb12
  clear hb1 hb3 hb12 hB2
  have a0 := A.cell 0
  have a1 := A.cell 1
  have b0 := B.cell 0
  have b1 := B.cell 1
  have c0 := C.cell 0
  have c1 := C.cell 1
  simp at a0 a1 b0 b1 c0 c1
  go_upto_region 5 with fail
  have e0 : w3.drew.cell? ⟨w.heap.size, 0, none⟩ = some (.int .i64 11) := a0
  have e1 : w3.drew.cell? ⟨w.heap.size, 1, none⟩ = some (.int .i64 12) := a1
  have e2 : w3.drew.cell? ⟨w.heap.size + 1, 0, none⟩ = some (.int .i64 0) := b0
  have e3 : w3.drew.cell? ⟨w.heap.size + 1, 1, none⟩ = some (.int .i64 8) := b1
  have e4 : w3.drew.cell? ⟨w.heap.size + 1 + 1, 0, none⟩ = some (.int .i64 2) := c0
  have e5 : w3.drew.cell? ⟨w.heap.size + 1 + 1, 1, none⟩ = some (.int .i64 2) := c1
  have HR := Lib.hid (And.intro R hB3)
  have hl := R.lt
  clear A B C R hB3
  go_region_held3 (fun w' => w'.cell? ⟨w.heap.size, 0, none⟩ = some (.int .i64 11) ∧ w'.cell? ⟨w.heap.size, 1, none⟩ = some (.int .i64 12) ∧ w'.cell? ⟨w.heap.size + 1, 0, none⟩ = some (.int .i64 0) ∧ w'.cell? ⟨w.heap.size + 1, 1, none⟩ = some (.int .i64 8) ∧ w'.cell? ⟨w.heap.size + 1 + 1, 0, none⟩ = some (.int .i64 2) ∧ w'.cell? ⟨w.heap.size + 1 + 1, 1, none⟩ = some (.int .i64 2))
    (first | with_reducible exact ⟨e0, e1, e2, e3, e4, e5⟩ | with_reducible exact ⟨keepad a0, keepad a1, keepad b0, keepad b1, keepad c0, keepad c1⟩)
    (first | (go_at_call 26; refine (up_42 _).mono ?_; rintro e w' ⟨rfl, rfl⟩))
  all_goals
    have hv : min (IntKind.i64.wrap ((IntKind.i64.wrap 11).tdiv 2)) 100000 = 5 := by decide
    rw [hv]
    have hb4 : Below w3.heap.size w3 (w3.alloc (.cells #[.int .i64 2, .int .i64 5] 29)).drew := ((Below.refl _ _).alloc (Nat.le_refl _) _).drew
    have N4 : Bk (w3.alloc (.cells #[.int .i64 2, .int .i64 5] 29)).drew w3.heap.size 29 #[.int .i64 2, .int .i64 5] := Bk.drew (bk_last rfl)
    obtain ⟨R, hB3⟩ := HR.out
    replace R := R.keep hb4
    have hB4 := hB3.trans (hb4.mono hB3.size)
    generalize (w3.alloc (.cells #[.int .i64 2, .int .i64 5] 29)).drew = w4 at *
    have n0 := N4.cell 0
    have n1 := N4.cell 1
    have r0 := R.cell 0
    have r1 := R.cell 1
    have r2 := R.fz 0
    have r3 := R.fz 1
    have r4 := R.lt
    simp at n0 n1 r0 r1
    clear R N4 HR
    go_wp2_with fail
    refine bodyPost_ret (v := .tuple #[.agg #[.int .i64 2, .int .i64 5], .int .i64 0]) (by simp [results, Tryz.results12, go_sem, r0, r1, r4]) rfl ⟨rfl, (hB4.setCell (by simp <;> omega) _).setCell (by simp <;> omega) _⟩

end Go.Proofs.YteihcodicfoiaaaGreat
