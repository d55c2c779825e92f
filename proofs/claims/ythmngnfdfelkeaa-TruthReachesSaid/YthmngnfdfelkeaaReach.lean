/-
  What is proved: the contracts of whole, reach and apart.
-/
import Derived.Test.YthmngnfdfelkeaaWith
import Derived.Deep.MidRow
import Derived.Laws.CopyOwn
namespace Go.Proofs.Ythmngnfdfelkeaa
open Go.RowKit
attribute [local go_sem ↓] max_int min_int

/-- A box: the bounds for each of eight pockets. -/
def boxA (lo hi : List Int) : Array Value := (intCells (lo ++ hi)).toArray
theorem boxA_size {lo hi : List Int} (h1 : lo.length = 8) (h2 : hi.length = 8) : (boxA lo hi).size = 16 := by simp [boxA, intCells, h1, h2]
theorem boxA_lo {lo hi : List Int} (h1 : lo.length = 8) {i : Nat} (hi8 : i < 8) : (boxA lo hi)[i]? = some (.int .i64 (lo.getD i 0)) := by
  simp only [boxA, intCells, List.getElem?_toArray, List.getElem?_map]
  rw [List.getElem?_append_left (by omega), List.getElem?_eq_getElem (by omega), getD_get _ _ (by omega)]
  rfl
theorem boxA_hi {lo hi : List Int} (h1 : lo.length = 8) (h2 : hi.length = 8) {i : Nat} (hi8 : i < 8) : (boxA lo hi)[8 + i]? = some (.int .i64 (hi.getD i 0)) := by
  simp only [boxA, intCells, List.getElem?_toArray, List.getElem?_map]
  rw [List.getElem?_append_right (by omega), show 8 + i - lo.length = i by omega, List.getElem?_eq_getElem (by omega), getD_get _ _ (by omega)]
  rfl
theorem boxA_set {lo hi : List Int} (h1 : lo.length = 8) {i : Nat} (x : Int) : (boxA lo hi).setIfInBounds (8 + i) (.int .i64 x) = boxA lo (hi.set i x) := by
  apply Array.toList_inj.1
  simp only [boxA, intCells, Array.toList_setIfInBounds, List.map_append, List.map_set]
  rw [List.set_append_right _ _ (by simp; omega)]
  congr 2
  simp
  omega
theorem boxA_one (lo hi : List Int) : (boxA lo hi).all (·.oneCell') = true := by
  rw [Array.all_eq_true_iff_forall_mem]
  intro u hu
  simp only [boxA, List.mem_toArray] at hu
  obtain ⟨x, _, rfl⟩ := List.mem_map.1 hu
  rfl
theorem Bk_setRow {w : World} {g : Nat} {t : TypeId} {old : Array Value} (h : Bk w g t old) (cs : Array Value) : Bk (w.setRow g cs) g t cs := setRow_heap w g old cs t (0, 0) h
theorem boxA_load {w : World} {b : Nat} {t : TypeId} {lo hi : List Int} (h1 : lo.length = 8) (h2 : hi.length = 8) (h : Bk w b t (boxA lo hi)) : (Instr.loadAt 103 (.pointer (some ⟨b, 0, none⟩))).run Try.prog w = .ok (.agg (boxA lo hi)) w := by
  simp only [Instr.loadAt, Instr.sureAddr, Sem.run_bind, Sem.run_pure, Result.andThen_ok, run_loadVar_row w b t 103 (boxA lo hi) (0, 0) _ h Try.underlying103 rfl (by rw [boxA_size h1 h2]; kernel_rfl)]

/-- The bounds of all leads, as far as the first k pockets. -/
def highK (s : Stn) (k : Nat) : List Int := (List.range 8).map fun i => if i < k then (s.pockets.getD i ((0, 0), 0)).2 else 0
theorem highK_len (s : Stn) (k : Nat) : (highK s k).length = 8 := by simp [highK]
theorem highK_succ (s : Stn) (k : Nat) : (highK s k).set k (s.pockets.getD k ((0, 0), 0)).2 = highK s (k + 1) := by
  apply List.ext_getElem
  · simp [highK]
  · intro i h1 h2
    rw [List.getElem_set]
    simp only [highK, List.getElem_map, List.getElem_range]
    by_cases e : k = i
    · subst e; simp
    · rw [if_neg e]
      by_cases h : i < k
      · rw [if_pos h, if_pos (by omega)]
      · rw [if_neg h, if_neg (by omega)]
def lowZ : List Int := List.replicate 8 0

set_option maxRecDepth 100000 in
set_option maxHeartbeats 2000000 in
theorem whole_any (g : Nat) (s : Stn) (z : Loc) (m : Array Value) (w : World) (R : Bk w g 98 (s.cells z ++ m)) (hs : StAt w s z) (hok : s.ok = true) :
    Calls Try.prog 74 #[.pointer (some ⟨g, 0, none⟩)] w fun e w' => e = .returned (.agg (boxA lowZ (highK s s.pockets.length))) ∧ Below w.heap.size w w' := by
  have hpl := (stn_ok hok).2.2.2.2.1
  have hgl := R.lt
  obtain ⟨_, _, _, _, _, _, x6, _⟩ := stn_cell R
  have HB := Lib.hid (And.intro hs R)
  clear hs R
  go_enter Try.func74, Try.ntmps74
  go_upto_region 2 with fail
  have E : Bk ((w.alloc (.cells #[.int .i64 0, .int .i64 0, .int .i64 0, .int .i64 0, .int .i64 0, .int .i64 0, .int .i64 0, .int .i64 0, .int .i64 0, .int .i64 0, .int .i64 0, .int .i64 0, .int .i64 0, .int .i64 0, .int .i64 0, .int .i64 0] 103)).alloc (.cells #[.int .i64 0, .int .i64 0, .int .i64 0, .int .i64 0, .int .i64 0, .int .i64 0, .int .i64 0, .int .i64 0, .int .i64 0, .int .i64 0, .int .i64 0, .int .i64 0, .int .i64 0, .int .i64 0, .int .i64 0, .int .i64 0] 103)) w.heap.size 103 (boxA lowZ lowZ) := (bk_last rfl).alloc _
  have V : Bk ((w.alloc (.cells #[.int .i64 0, .int .i64 0, .int .i64 0, .int .i64 0, .int .i64 0, .int .i64 0, .int .i64 0, .int .i64 0, .int .i64 0, .int .i64 0, .int .i64 0, .int .i64 0, .int .i64 0, .int .i64 0, .int .i64 0, .int .i64 0] 103)).alloc (.cells #[.int .i64 0, .int .i64 0, .int .i64 0, .int .i64 0, .int .i64 0, .int .i64 0, .int .i64 0, .int .i64 0, .int .i64 0, .int .i64 0, .int .i64 0, .int .i64 0, .int .i64 0, .int .i64 0, .int .i64 0, .int .i64 0] 103)) (w.heap.size + 1) 103 (boxA lowZ (highK s 0)) := by
    rw [show highK s 0 = lowZ by simp [highK, lowZ]; rfl]
    exact bk_last (by simp)
  have hB : Below w.heap.size w ((w.alloc (.cells #[.int .i64 0, .int .i64 0, .int .i64 0, .int .i64 0, .int .i64 0, .int .i64 0, .int .i64 0, .int .i64 0, .int .i64 0, .int .i64 0, .int .i64 0, .int .i64 0, .int .i64 0, .int .i64 0, .int .i64 0, .int .i64 0] 103)).alloc (.cells #[.int .i64 0, .int .i64 0, .int .i64 0, .int .i64 0, .int .i64 0, .int .i64 0, .int .i64 0, .int .i64 0, .int .i64 0, .int .i64 0, .int .i64 0, .int .i64 0, .int .i64 0, .int .i64 0, .int .i64 0, .int .i64 0] 103)) := ((Below.refl _ _).alloc (Nat.le_refl _) _).alloc (by simp) _
  generalize (w.alloc (.cells _ 103)).alloc (.cells _ 103) = U at *
  clear x6
  obtain ⟨_, _, _, _, _, _, x6, _⟩ := stn_cell (HB.out.2.below hB hgl)
  go_wp2_with fail
  clear x6
  go_loopw [12] (fun i wr => ∃ k : Nat, k ≤ s.pockets.length ∧ i = .int .i64 k ∧ Bk wr w.heap.size 103 (boxA lowZ lowZ) ∧ Bk wr (w.heap.size + 1) 103 (boxA lowZ (highK s k)) ∧ Below w.heap.size w wr) (fun i _ => s.pockets.length - (intOf i).toNat)
  case atStart => exact ⟨0, Nat.zero_le _, rfl, E, V, hB⟩
  case round =>
    clear E V hB
    obtain ⟨k, hk, rfl, E, V, hB⟩ := hrel
    by_cases hlt : k < s.pockets.length
    · have hkI : (k : Int) < s.pockets.length := by omega
      have hk8 : (k : Int) < 8 := by omega
      obtain ⟨b, off, hA, hb, hc⟩ := (HB.out.1.below hB).pockets.pk (by omega)
      obtain ⟨c0, c1, c2⟩ := hc k hlt
      clear hc
      have HS := Lib.hid (highK_succ s k)
      generalize s.pockets.getD k ((0, 0), 0) = p at *
      obtain ⟨⟨px, py⟩, pm⟩ := p
      simp only at c0 c1 c2 HS
      have v0 := V.cell (8 + k)
      rw [boxA_hi rfl (highK_len _ _) (by omega)] at v0
      have v1 := V.fz (8 + k)
      have Vl := V.lt
      have El := E.lt
      have HV := Lib.hid V
      have HE := Lib.hid E
      have hz := hB.size
      rw [hA]
      clear hA V E
      go_wp2_with fail
      go_roundw
      case rel =>
        refine ⟨k + 1, by omega, by go_num, ((HE.out.far (by simp) _).alloc _), ?_, (hB.setCell (by simp) _).alloc (by simpa using hz) _⟩
        have h := (HV.out.put (8 + k) (.int .i64 pm)).alloc (.cells #[.int .i64 px, .int .i64 py, .int .i64 pm] 71)
        rw [boxA_set rfl, HS.out] at h
        exact h
      case measure => simp [intOf]; omega
    · have : k = s.pockets.length := by omega
      subst this
      have hoc : (boxA lowZ (highK s s.pockets.length)).all (·.oneCell') = true := boxA_one _ _
      have hsz : (boxA lowZ (highK s s.pockets.length)).size = 16 := boxA_size rfl (highK_len _ _)
      have hi : (Try.prog.info? 103).map (·.size) = some (boxA lowZ (highK s s.pockets.length)).size := by rw [hsz]; kernel_rfl
      have ho : (boxA lowZ lowZ).size = (boxA lowZ (highK s s.pockets.length)).size := by rw [hsz]; rfl
      have HV := Lib.hid V
      have HE := Lib.hid E
      have HI := Lib.hid (And.intro hi (And.intro ho hoc))
      clear V E hi ho hoc hsz
      generalize hbx : boxA lowZ (highK s s.pockets.length) = bx at *
      have HBX := Lib.hid hbx
      clear hbx
      go_wp2_with (first | (refine wpList_load_row rfl 103 _ rfl (w.heap.size + 1) rfl 103 bx (0, 0) _ HV.out Try.underlying103 rfl HI.out.1 ?_) | (refine wpList_store_row rfl 103 _ _ rfl w.heap.size bx rfl rfl 103 (boxA lowZ lowZ) HE.out HI.out.1 HI.out.2.1 HI.out.2.2 ?_))
      refine ⟨rfl, ?_⟩
      have E2 : Bk (wr.setRow w.heap.size bx) w.heap.size 103 bx := Bk_setRow HE.out _
      refine ⟨_, results_cell_row (ty := 103) rfl _ _ w.heap.size 103 bx (0, 0) _ rfl E2 Try.underlying103 rfl HI.out.1, by rw [HBX.out], below_setRow hB (Nat.le_refl _) _⟩

end Go.Proofs.Ythmngnfdfelkeaa
