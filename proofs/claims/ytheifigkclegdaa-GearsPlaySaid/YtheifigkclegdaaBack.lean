/-
  What is proved: the contract of the law's back.
-/
import Derived.Test.YtheifigkclegdaaWheels
namespace Go.Proofs.Ytheifigkclegdaa
open Go.RowKit

def swapM (m : Mesh) : Mesh := ⟨m.dn, m.dr, m.pl⟩
def backL (L : List Mesh) : List Mesh := L.reverse.map swapM
theorem backL_len (L : List Mesh) : (backL L).length = L.length := by simp [backL]
theorem backL_get (L : List Mesh) (k : Nat) (hk : k < L.length) : (backL L)[k]'(by rw [backL_len]; exact hk) = swapM (L[L.length - 1 - k]'(by omega)) := by
  simp [backL, List.getElem_reverse]
theorem meshCells_succ (L : List Mesh) (k : Nat) (hk : k < L.length) : meshCells (L.take (k + 1)) = meshCells (L.take k) ++ [.int .i64 L[k].dr, .int .i64 L[k].dn, .int .i64 L[k].pl] := by
  rw [List.take_succ_eq_append_getElem hk]
  unfold meshCells
  rw [List.flatMap_append]
  rfl

theorem meshInfo : (Try.prog.info? 36).map (fun i => (i.zero, i.size, i.bytes)) = some (some (.agg #[.int .i64 0, .int .i64 0, .int .i64 0]), 3, 24) := by kernel_rfl

theorem three_at (w : World) (u v x : Value) (t : TypeId) (n : Nat) (h : w.heap.size = n) : ∀ (j : Nat) (y : Value), [u, v, x][j]? = some y → (w.alloc (.cells #[u, v, x] t)).cell? ((⟨n, 0, none⟩ : Addr).add j) = some y := by
  subst h
  intro j y hy
  rw [add_at]
  match j with
  | 0 => simp at hy; subst hy; simp
  | 1 => simp at hy; subst hy; simp
  | 2 => simp at hy; subst hy; simp
  | j + 3 => simp at hy

set_option maxRecDepth 100000 in
set_option maxHeartbeats 4000000 in
theorem lawBack_any (A : Option Addr) (c : Nat) (L : List Mesh) (w : World) (hL : RowAt w A (meshCells L)) (hl : L.length ≤ 65536) :
    Calls Try.prog 37 #[.agg #[.slice A L.length c]] w fun e w' => ∃ A' c', e = .returned (.agg #[.slice A' L.length c']) ∧ RowAt w' A' (meshCells (backL L)) ∧ Below w.heap.size w w' := by
  obtain ⟨i0, hi0, hz0, hz1, hz2⟩ := info_parts meshInfo
  go_enter Try.func37, Try.ntmps37
  go_wp2
  go_loopw [4] (fun i wr => ∃ k : Nat, k ≤ L.length ∧ i = .int .i64 ((L.length : Int) - 1 - k) ∧ ∃ v, wr.ownsRow (w.heap.size + 3) 36 3 v k (meshCells ((backL L).take k)) ∧ Bk wr w.heap.size 24 #[.slice A L.length c] ∧ Bk wr (w.heap.size + 1) 24 #[.slice none 0 0] ∧ Bk wr (w.heap.size + 1 + 1) 24 #[v] ∧ Below w.heap.size w wr) (fun i _ => (intOf i + 1).toNat)
  case atStart => exact ⟨0, Nat.zero_le _, by simp, _, World.ownsRow_nil _ _ _ _, ((bk_last rfl).alloc _).alloc _, (bk_last (by simp)).alloc _, bk_last (by simp), (((Below.refl _ _).alloc (Nat.le_refl _) _).alloc (by simp) _).alloc (by simp; omega) _⟩
  case round =>
    obtain ⟨k, hk, rfl, v, hown, X, E, O, hB⟩ := hrel
    obtain ⟨A1, c1, rfl, hc1, _, hU⟩ := own_form hown
    have hx := X.cell 0
    have ho := O.cell 0
    have of := O.fz 0
    simp at hx ho
    have ol := O.lt
    by_cases hlt : k < L.length
    · obtain ⟨b, off, hA, hb, hc⟩ := (hL.below hB).mesh (by omega)
      obtain ⟨j, hj⟩ : ∃ j, j = L.length - 1 - k := ⟨_, rfl⟩
      have hjl : j < L.length := by omega
      have hjI : (L.length : Int) - 1 - k = (j : Nat) := by omega
      obtain ⟨c0, c1', c2⟩ := hc j hjl
      rw [hjI]
      rw [hA] at hx
      have hj1 : (j : Int) < (L.length : Int) := by omega
      have hget : (backL L)[k]'(by rw [backL_len]; exact hlt) = swapM (L[j]'hjl) := by subst hj; exact backL_get L k hlt
      have hSC := meshCells_succ (backL L) k (by rw [backL_len]; exact hlt)
      rw [hget] at hSC
      have HSC : Hid (meshCells ((backL L).take (k + 1)) = meshCells ((backL L).take k) ++ [.int .i64 (L[j]'hjl).dn, .int .i64 (L[j]'hjl).dr, .int .i64 (L[j]'hjl).pl]) := hSC
      have HJ : Hid ((j : Int) - 1 = (L.length : Int) - 1 - ((k + 1 : Nat) : Int)) := by unfold Hid; omega
      have E1 : k + 1 ≤ maxLen := by unfold maxLen; omega
      have E2 : (k + 1) * 24 ≤ 140737488355328 := by omega
      have EE := Lib.hid (And.intro E1 E2)
      have hjk : Hid (j + 1 + k = L.length) := by unfold Hid; omega
      clear hc hA hSC hget E1 E2
      generalize L[j]'hjl = m at *
      clear hj hjI
      go_upto_region 4 with (at_builtin; refine (wpList_append_own_at _ rfl _ _ 22 rfl (w.heap.size + 3) 36 i0 _ 3 24 Try.underlying22 hi0 hz0 hz1 hz2 rfl (by decide) _ _ _ rfl ((hown.alloc _).alloc _) ⟨wr.heap.size + 1, 0, none⟩ 1 1 [.int .i64 m.dn, .int .i64 m.dr, .int .i64 m.pl] rfl rfl (three_at _ _ _ _ _ _ (by simp)) (by simp [Value.oneCell']) EE.out.1 EE.out.2 (by simp; omega) ?_); intro v' w1 hown' hg _ _; obtain ⟨A2, c3, rfl, _, _, _⟩ := own_form hown'; have O1 : Bk w1 (w.heap.size + 1 + 1) 24 #[.slice A1 k c1] := ((O.alloc _).alloc _).grown hg (fun e => by have := (hU _ e.symm).1; omega); have of1 := O1.fz 0; have ol1 := O1.lt; have oc1 := O1.cell 0; simp at oc1)
      have hB1 : Below w.heap.size w w1 := ((hB.alloc hB.size _).alloc (by have := hB.size; simp; omega) _).grown hg (by have := hB.size; simp; omega) (fun g hg => by have := (hU g hg).1; omega)
      have X1 : Bk w1 w.heap.size 24 #[.slice A L.length c] := ((X.alloc _).alloc _).grown hg (fun e => by have := (hU _ e.symm).1; omega)
      have F1 : Bk w1 (w.heap.size + 1) 24 #[.slice none 0 0] := ((E.alloc _).alloc _).grown hg (fun e => by have := (hU _ e.symm).1; omega)
      clear hg
      go_wp2_with fail
      go_roundw
      case rel => exact ⟨k + 1, by omega, congrArg (Value.int .i64) HJ.out, _, by rw [HSC.out]; exact ownsRow_setCell_below hown' (by simp) _, X1.far (by simp; omega) _, F1.far (by simp) _, by simpa using O1.put 0 _, hB1.setCell (by simp; omega) _⟩
      case measure => simp [intOf]
    · have : k = L.length := by omega
      subst this
      have e0 := E.cell 0
      have e1 := E.fz 0
      have el := E.lt
      simp at e0
      have hneg : (L.length : Int) - 1 - L.length < 0 := by omega
      rw [show (backL L).take L.length = backL L by rw [List.take_of_length_le (by rw [backL_len]; exact Nat.le_refl _)]] at hown
      have hown2 := ownsRow_setCell_below hown (a := ⟨w.heap.size + 1, 0, none⟩) (by simp) (.slice A1 L.length c1)
      obtain ⟨_, _, e2, _, hr, _⟩ := own_form hown2
      injection e2 with e2 _ e3
      subst e2 e3
      go_wp2_with fail
      refine bodyPost_ret (v := .agg #[.slice A1 L.length c1]) (by simp [results, Try.results37, go_sem, e0]) rfl ⟨A1, ⟨c1, rfl⟩, hr, hB.setCell (by simp) _⟩

end Go.Proofs.Ytheifigkclegdaa
