/-
  What is proved: contract of the specification's function that lays out drivers and driven wheels.
-/
import Derived.Test.YtheifigkclegdaaLow
import Derived.Deep.DeepCutAuto
namespace Go.Proofs.Ytheifigkclegdaa
open Go.RowKit

def drI (L : List Mesh) : List Int := L.map (·.dr)
def dnI (L : List Mesh) : List Int := L.map (·.dn)
theorem drI_succ (L : List Mesh) (k : Nat) (hk : k < L.length) : intCells (drI (L.take (k + 1))) = intCells (drI (L.take k)) ++ [.int .i64 L[k].dr] := by
  rw [List.take_succ_eq_append_getElem hk]
  simp only [intCells, drI, List.map_append, List.map_cons, List.map_nil]
theorem dnI_succ (L : List Mesh) (k : Nat) (hk : k < L.length) : intCells (dnI (L.take (k + 1))) = intCells (dnI (L.take k)) ++ [.int .i64 L[k].dn] := by
  rw [List.take_succ_eq_append_getElem hk]
  simp only [intCells, dnI, List.map_append, List.map_cons, List.map_nil]

set_option maxRecDepth 100000 in
set_option maxHeartbeats 4000000 in
theorem wheels_any (A : Option Addr) (c n : Nat) (L : List Mesh) (w : World) (hL : RowAt w A (meshCells L)) (hn : n ≤ L.length) (hl : L.length ≤ 65536) :
    Calls Try.prog 74 #[.agg #[.slice A L.length c], .int .i64 n] w fun e w' => ∃ va vb, e = .returned (.tuple #[va, vb]) ∧ w'.ownsRow w.heap.size 3 1 va n (intCells (drI (L.take n))) ∧ w'.ownsRow w.heap.size 3 1 vb n (intCells (dnI (L.take n))) ∧ Apart va vb ∧ Below w.heap.size w w' := by
  obtain ⟨i0, hi0, hz0, hz1, hz2⟩ := info_parts intInfo
  go_enter Try.func74, Try.ntmps74
  go_wp2
  go_loopw [6, 7, 8] (fun va vb i wr => ∃ k : Nat, k ≤ n ∧ i = .int .i64 k ∧ wr.ownsRow (w.heap.size + 1) 3 1 va k (intCells (drI (L.take k))) ∧ wr.ownsRow (w.heap.size + 1) 3 1 vb k (intCells (dnI (L.take k))) ∧ Apart va vb ∧ Bk wr w.heap.size 24 #[.slice A L.length c] ∧ Below w.heap.size w wr) (fun _ _ i _ => n - (intOf i).toNat)
  case atStart => exact ⟨0, Nat.zero_le _, rfl, World.ownsRow_nil _ _ _ _, World.ownsRow_nil _ _ _ _, Apart.nil _, bk_last rfl, (Below.refl _ _).alloc (Nat.le_refl _) _⟩
  case round =>
    obtain ⟨k, hk, rfl, ho1, ho2, hap, hbx, hB⟩ := hrel
    by_cases hlt : k < n
    · obtain ⟨b, off, hA, hb, hc⟩ := (hL.below hB).mesh (by omega)
      obtain ⟨c0, c1, c2⟩ := hc k (by omega)
      clear hc c2
      have hs := hbx.cell 0
      simp at hs
      have hbl := hbx.lt
      rw [hA] at hs
      clear hA
      have E1 : k + 1 ≤ maxLen := by unfold maxLen; omega
      have E2 : (k + 1) * 8 ≤ 140737488355328 := by omega
      have E3 : w.heap.size ≤ wr.heap.size := hB.size
      have E := Lib.hid (And.intro E1 (And.intro E2 E3))
      clear E1 E2 E3
      have hkL : (k : Int) < (L.length : Int) := by omega
      go_upto_region 7 with (at_builtin; refine wpList_append_own_at _ rfl _ _ 27 rfl (w.heap.size + 1) 3 i0 _ 1 8 Try.underlying27 hi0 hz0 hz1 hz2 rfl (by decide) _ _ _ rfl (ho1.alloc _) ⟨wr.heap.size, 0, none⟩ 1 1 [.int .i64 L[k].dr] rfl rfl (cell_one_new _ _ _) (by simp [Value.oneCell']) E.out.1 E.out.2.1 (by simp; omega) ?_; intro va' w1 hown1 hg1 _ hob1)
      have hap1 : Apart va' u7 := hap.next hob1 (fun g hg => by have := (ho2.lt g hg).2; simp; omega)
      have hrow1 : w.heap.size < (wr.alloc (Obj.cells #[Value.int IntKind.i64 L[k].dr] 3)).heap.size := by simp; omega
      have ho2' := (ho2.alloc (Obj.cells #[Value.int IntKind.i64 L[k].dr] 3)).kept hg1 hap.row
      have hlow : ∀ g, u6.ownBlock = some g → w.heap.size ≤ g := fun g hg => by have := (ho1.lt g hg).1; omega
      have hne1 : some w.heap.size ≠ u6.ownBlock := fun e => by have := (ho1.lt _ e.symm).1; omega
      have hbx1 : Bk w1 w.heap.size 24 #[.slice A L.length c] := (hbx.alloc _).grown hg1 hne1
      have hB1 : Below w.heap.size w w1 := (hB.alloc hB.size _).grown hg1 (by simp; omega) hlow
      clear hg1 hob1 ho1 ho2 hap hbx hB hlow hne1 hrow1 hs c0 c1 hb
      obtain ⟨b, off, hA, hb, hc⟩ := (hL.below hB1).mesh (by omega)
      obtain ⟨c0, c1, c2⟩ := hc k (by omega)
      clear hc c2
      have hs := hbx1.cell 0
      simp at hs
      have hbl1 := hbx1.lt
      rw [hA] at hs
      clear hA
      have E4 : w.heap.size ≤ w1.heap.size := hB1.size
      go_upto_region 5 with (at_builtin; refine wpList_append_own_at _ rfl _ _ 27 rfl (w.heap.size + 1) 3 i0 _ 1 8 Try.underlying27 hi0 hz0 hz1 hz2 rfl (by decide) _ _ _ rfl (ho2'.alloc _) ⟨w1.heap.size, 0, none⟩ 1 1 [.int .i64 L[k].dn] rfl rfl (cell_one_new _ _ _) (by simp [Value.oneCell']) E.out.1 E.out.2.1 (by simp; omega) ?_; intro vb' w2 hown2 hg2 _ hob2)
      have hap2 : Apart vb' va' := hap1.symm.next hob2 (fun g hg => by have := (hown1.lt g hg).2; simp; omega)
      have hown1' := (hown1.alloc (Obj.cells #[Value.int IntKind.i64 L[k].dn] 3)).kept hg2 hap1.symm.row
      have hne2 : some w.heap.size ≠ u7.ownBlock := fun e => by have := (ho2'.lt _ e.symm).1; omega
      have hbx2 : Bk w2 w.heap.size 24 #[.slice A L.length c] := (hbx1.alloc _).grown hg2 hne2
      have hB2 : Below w.heap.size w w2 := (hB1.alloc hB1.size _).grown hg2 (by simp; omega) (fun g hg => by have := (ho2'.lt g hg).1; omega)
      clear hg2 hob2 hown1 ho2' hbx1 hB1 hne2 hs c0 c1 hb hap1
      go_wp2
      go_roundw
      case rel => exact ⟨k + 1, by omega, by go_num, by rw [drI_succ L k (by omega)]; exact hown1', by rw [dnI_succ L k (by omega)]; exact hown2, hap2.symm, hbx2, hB2⟩
      case measure => simp [intOf]; omega
    · have : k = n := by omega
      subst this
      go_wp2
      go_ret2
      exact ⟨_, _, rfl, own_base ho1 (by omega), own_base ho2 (by omega), hap, hB⟩

end Go.Proofs.Ytheifigkclegdaa
