/-
  What is proved: the contracts of truth.Moment, Lead, Least and Count.
  What is proved: the contracts of whole, reach and apart.
-/
import Derived.Test.YthmngnfdfelkeaaBestMg
import Derived.Test.YthmngnfdfelkeaaMg6
import Derived.Deep.MidRow
import Derived.Laws.CopyOwn
namespace Go.Proofs.Ythmngnfdfelkeaa
open Go.RowKit
attribute [local go_sem ↓] max_int min_int

theorem prodM_app (a b : List Nat) : prodM (a ++ b) = prodM a * prodM b := by
  induction a with
  | nil => simp [prodM]
  | cons m a ih => simp only [List.cons_append, prodM, ih, Nat.mul_assoc]

theorem leadsF_prod {s : Stn} (h : s.ok = true) : ∀ n, n ≤ s.pockets.length → leadsF s n = min ((prodM ((mosts s).take n) : Nat) : Int) 200001
  | 0, _ => by simp only [leadsF, List.take_zero, prodM]; omega
  | n + 1, hn => by
    have ih := leadsF_prod h n (by omega)
    have hl : n < (mosts s).length := by rw [mosts_len]; omega
    have e : (mosts s).take (n + 1) = (mosts s).take n ++ [(mosts s).getD n 0] := by
      rw [List.take_add_one, List.getElem?_eq_getElem hl, getD_get _ _ hl]; rfl
    have hp := prodM_pos ((mosts s).take n)
    rw [e, prodM_app]
    simp only [leadsF, ih, prodM, Nat.mul_one, mosts_get h (show n < s.pockets.length by omega)]
    generalize prodM ((mosts s).take n) = P at *
    generalize (mosts s).getD n 0 = m
    have e2 : ((P * (m + 1) : Nat) : Int) = (P : Int) * ((m : Int) + 1) := by simp
    rw [e2]
    rcases Int.le_total (P : Int) 200001 with h1 | h1
    · rw [Int.min_eq_left h1]
    · rw [Int.min_eq_right h1]
      have h2 : (200001 : Int) * 1 ≤ 200001 * ((m : Int) + 1) := Int.mul_le_mul_of_nonneg_left (by omega) (by omega)
      have h3 : (200001 : Int) * ((m : Int) + 1) ≤ P * ((m : Int) + 1) := Int.mul_le_mul_of_nonneg_right h1 (by omega)
      rw [Int.min_eq_right (by omega), Int.min_eq_right (by omega)]

theorem few_leads {s : Stn} (h : s.ok = true) : leadsF s s.pockets.length ≤ 200000 ↔ prodM (mosts s) ≤ 200000 := by
  rw [leadsF_prod h _ (Nat.le_refl _), List.take_of_length_le (by rw [mosts_len]; omega)]
  omega

def momentR (s : Stn) : (Int × Int) × Int := if s.ok then ((momX s s.f.kinds.length, momY s s.f.kinds.length), 0) else ((0, 0), 60)
def pointV (x : (Int × Int) × Int) : Value := .tuple #[.agg #[.int .i64 x.1.1, .int .i64 x.1.2], .int .i64 x.2]

set_option maxRecDepth 100000 in
set_option maxHeartbeats 2000000 in
theorem moment_any (s : Stn) (z : Loc) (w : World) (hs : StAt w s z) :
    Calls Try.prog 28 #[s.val z] w fun e w' => e = .returned (pointV (momentR s)) ∧ Below w.heap.size w w' := by
  have HO : Hid (∀ W, StAt W s z → Calls Try.prog 71 #[.agg (s.cells z)] W (OpenPost s z W)) := fun W h => open_any s z W h
  unfold Stn.cells at HO
  unfold Stn.val Stn.cells
  go_enter Try.func28, Try.ntmps28
  go_wp2_with fail
  refine (HO.out _ ((hs.alloc _).alloc _)).mono ?_
  rintro e w1 ⟨hb1, h⟩
  have hB : Below w.heap.size w w1 := (((Below.refl _ _).alloc (Nat.le_refl _) _).alloc (by simp) _).trans (hb1.mono (by simp; omega))
  have E : Bk w1 (w.heap.size + 1) 43 #[.int .i64 0, .int .i64 0] := (bk_last (by simp)).keep hb1
  have e0 := E.cell 0
  have e1 := E.cell 1
  have e2 := E.fz 0
  have e3 := E.fz 1
  simp at e0 e1
  rcases h with ⟨h1, rfl⟩ | ⟨h1, g, rfl, hg, R⟩
  · have hR : momentR s = ((0, 0), 60) := by simp [momentR, h1]
    have HR := Lib.hid hR
    clear hR
    go_wp2_with fail
    refine bodyPost_ret (v := pointV ((0, 0), 60)) (by simp [pointV, results, Try.results28, go_sem, e0, e1]) rfl ⟨by first | (rw [HR.out]; done) | (rw [HR.out]; rfl), ?_⟩
    repeat (first | exact hB | refine Below.setCell ?_ (by simp <;> omega) _ | refine Below.alloc ?_ (by simp <;> omega) _ | refine below_drewN ?_ _)
  · have hR : momentR s = ((momX s s.f.kinds.length, momY s s.f.kinds.length), 0) := by simp [momentR, h1]
    have HR := Lib.hid hR
    clear hR
    have q0 := R.cell 8
    have q1 := R.cell 9
    have hq : (s.cells z ++ #[Value.int .i64 (momX s s.f.kinds.length), Value.int .i64 (momY s s.f.kinds.length)])[8]? = some (Value.int .i64 (momX s s.f.kinds.length)) ∧ (s.cells z ++ #[Value.int .i64 (momX s s.f.kinds.length), Value.int .i64 (momY s s.f.kinds.length)])[9]? = some (Value.int .i64 (momY s s.f.kinds.length)) := ⟨rfl, rfl⟩
    rw [hq.1] at q0
    rw [hq.2] at q1
    clear hq
    go_wp2_with fail
    refine bodyPost_ret (v := pointV ((momX s s.f.kinds.length, momY s s.f.kinds.length), 0)) (by simp [pointV, results, Try.results28, go_sem, e0, e1]) rfl ⟨by first | (rw [HR.out]; done) | (rw [HR.out]; rfl), ?_⟩
    repeat (first | exact hB | refine Below.setCell ?_ (by simp <;> omega) _ | refine Below.alloc ?_ (by simp <;> omega) _ | refine below_drewN ?_ _)

/-- What Lead gives. -/
def leadR (s : Stn) : List Int × Int :=
  if s.ok then if prodM (mosts s) ≤ 200000 then if manyN s (prodM (mosts s)) = 0 then ([], 61) else (bestL s (prodM (mosts s)), 0) else ([], 2) else ([], 60)
def countR (s : Stn) : Int × Int :=
  if s.ok then if prodM (mosts s) ≤ 200000 then (((manyN s (prodM (mosts s)) : Nat) : Int), 0) else (0, 2) else (0, 60)
def leastR (s : Stn) : Int × Int := (sumL (leadR s).1, (leadR s).2)

set_option maxRecDepth 100000 in
set_option maxHeartbeats 2000000 in
theorem lead_any (s : Stn) (z : Loc) (w : World) (hs : StAt w s z) :
    Calls Try.prog 20 #[s.val z] w fun e w' => ∃ v, e = .returned (.tuple #[v, .int .i64 (leadR s).2]) ∧ w'.ownsRow w.heap.size 3 1 v (leadR s).1.length (intCells (leadR s).1) ∧ Below w.heap.size w w' := by
  have HO : Hid (∀ W, StAt W s z → Calls Try.prog 64 #[.agg (s.cells z)] W (PoorPost s z W)) := fun W h => poor_any s z W h
  unfold Stn.cells at HO
  unfold Stn.val Stn.cells
  go_enter Try.func20, Try.ntmps20
  go_wp2_with fail
  refine (HO.out _ (hs.alloc _)).mono ?_
  rintro e w1 ⟨hb1, h⟩
  have hB : Below w.heap.size w w1 := ((Below.refl _ _).alloc (Nat.le_refl _) _).trans (hb1.mono (by simp))
  rcases h with ⟨h1, rfl⟩ | ⟨h1, h2, rfl⟩ | ⟨h1, h2, g, rfl, hg, R⟩
  · have hR : leadR s = ([], 60) := by simp [leadR, h1]
    have HR := Lib.hid hR
    clear hR
    go_wp2_with fail
    go_ret2
    exact ⟨.slice none 0 0, by first | (rw [HR.out]; done) | (rw [HR.out]; rfl), by rw [HR.out]; exact World.ownsRow_nil _ _ _ _, hB⟩
  · have hN : ¬ prodM (mosts s) ≤ 200000 := fun h => by have := (few_leads h1).2 h; omega
    have hR : leadR s = ([], 2) := by simp [leadR, h1, hN]
    have HR := Lib.hid hR
    clear hR
    clear h2 hN
    go_wp2_with fail
    go_ret2
    exact ⟨.slice none 0 0, by first | (rw [HR.out]; done) | (rw [HR.out]; rfl), by rw [HR.out]; exact World.ownsRow_nil _ _ _ _, hB⟩
  · have hN := (few_leads h1).1 h2
    have HB := Lib.hid (best_any g s z w1 R (hs.below hB) h1 hN)
    by_cases hm : manyN s (prodM (mosts s)) = 0
    · have hR : leadR s = ([], 61) := by simp [leadR, h1, hN, hm]
      have HR := Lib.hid hR
      clear hR
      rw [hm] at HB
      clear h1 h2 hN hm R hg
      go_wp2_with fail
      refine (HB.out).mono ?_
      rintro e w2 ⟨v, rfl, _, hb2⟩
      have hB2 := hB.trans (hb2.mono hB.size)
      go_wp2_with fail
      go_ret2
      exact ⟨.slice none 0 0, by first | (rw [HR.out]; done) | (rw [HR.out]; rfl), by rw [HR.out]; exact World.ownsRow_nil _ _ _ _, hB2⟩
    · have hR : leadR s = (bestL s (prodM (mosts s)), 0) := by simp [leadR, h1, hN, hm]
      have HR := Lib.hid hR
      clear hR
      have hm1 : ((manyN s (prodM (mosts s)) : Int) == 0) = false := by simp; omega
      clear h1 h2 hN hm R hg
      generalize prodM (mosts s) = N at *
      go_wp2_with fail
      refine (HB.out).mono ?_
      rintro e w2 ⟨v, rfl, ho, hb2⟩
      have hB2 := hB.trans (hb2.mono hB.size)
      have hz := hB.size
      go_wp2_with fail
      go_ret2
      exact ⟨v, by first | (rw [HR.out]; done) | (rw [HR.out]; rfl), by rw [HR.out]; exact own_base ho hz, hB2⟩

set_option maxRecDepth 100000 in
set_option maxHeartbeats 2000000 in
theorem count_any (s : Stn) (z : Loc) (w : World) (hs : StAt w s z) :
    Calls Try.prog 22 #[s.val z] w fun e w' => e = .returned (pairV (countR s)) ∧ Below w.heap.size w w' := by
  have HO : Hid (∀ W, StAt W s z → Calls Try.prog 64 #[.agg (s.cells z)] W (PoorPost s z W)) := fun W h => poor_any s z W h
  unfold Stn.cells at HO
  unfold Stn.val Stn.cells
  unfold pairV
  go_enter Try.func22, Try.ntmps22
  go_wp2_with fail
  refine (HO.out _ (hs.alloc _)).mono ?_
  rintro e w1 ⟨hb1, h⟩
  have hB : Below w.heap.size w w1 := ((Below.refl _ _).alloc (Nat.le_refl _) _).trans (hb1.mono (by simp))
  rcases h with ⟨h1, rfl⟩ | ⟨h1, h2, rfl⟩ | ⟨h1, h2, g, rfl, hg, R⟩
  · have hR : countR s = (0, 60) := by simp [countR, h1]
    have HR := Lib.hid hR
    clear hR
    go_wp2_with fail
    go_ret2
    exact ⟨by first | (rw [HR.out]; done) | (rw [HR.out]; rfl), hB⟩
  · have hN : ¬ prodM (mosts s) ≤ 200000 := fun h => by have := (few_leads h1).2 h; omega
    have hR : countR s = (0, 2) := by simp [countR, h1, hN]
    have HR := Lib.hid hR
    clear hR
    clear h2 hN
    go_wp2_with fail
    go_ret2
    exact ⟨by first | (rw [HR.out]; done) | (rw [HR.out]; rfl), hB⟩
  · have hN := (few_leads h1).1 h2
    have HB := Lib.hid (best_any g s z w1 R (hs.below hB) h1 hN)
    have hR : countR s = (((manyN s (prodM (mosts s)) : Nat) : Int), 0) := by simp [countR, h1, hN]
    have HR := Lib.hid hR
    clear hR
    clear h1 h2 hN R hg
    generalize prodM (mosts s) = N at *
    go_wp2_with fail
    refine (HB.out).mono ?_
    rintro e w2 ⟨v, rfl, ho, hb2⟩
    have hB2 := hB.trans (hb2.mono hB.size)
    go_wp2_with fail
    go_ret2
    exact ⟨by first | (rw [HR.out]; done) | (rw [HR.out]; rfl), hB2⟩

theorem bestL_small {s : Stn} (h : s.ok = true) : ∀ k, k ≤ prodM (mosts s) → (bestL s k).length ≤ 8 ∧ ∀ x ∈ bestL s k, 0 ≤ x ∧ x ≤ 255 := fun k hk => by
  rcases bestL_of s k with e | ⟨j, h1, h2⟩
  · rw [e]; simp
  · rw [h2]
    have hl : (leadN s j).length = s.pockets.length := by rw [leadN, toI_len, leadAt_len, mosts_len]
    obtain ⟨_, _, _, _, h5, _, _, _, hp⟩ := stn_ok h
    refine ⟨by omega, fun x hx => ?_⟩
    obtain ⟨i, hi, rfl⟩ := List.getElem_of_mem hx
    have h3 := inM_get (leadAt_in (show j < prodM (mosts s) by omega)) i (by rw [leadAt_len, mosts_len]; omega)
    have h4 := (hp _ (getD_mem ((0, 0), 0) (show i < s.pockets.length by omega))).2.2
    rw [mosts_get h (by omega)] at h4
    rw [← getD_get _ 0 hi, leadN, toI_get]
    omega

theorem leadR_small (s : Stn) : (leadR s).1.length ≤ 8 ∧ ∀ x ∈ (leadR s).1, 0 ≤ x ∧ x ≤ 255 := by
  unfold leadR
  split
  · rename_i h
    split
    · split
      · simp
      · exact bestL_small h _ (Nat.le_refl _)
    · simp
  · simp

set_option maxRecDepth 100000 in
set_option maxHeartbeats 2000000 in
theorem least_any (s : Stn) (z : Loc) (w : World) (hs : StAt w s z) :
    Calls Try.prog 18 #[s.val z] w fun e w' => e = .returned (pairV (leastR s)) ∧ Below w.heap.size w w' := by
  have HO : Hid (∀ W, StAt W s z → Calls Try.prog 20 #[.agg (s.cells z)] W fun e w' => ∃ v, e = .returned (.tuple #[v, .int .i64 (leadR s).2]) ∧ w'.ownsRow W.heap.size 3 1 v (leadR s).1.length (intCells (leadR s).1) ∧ Below W.heap.size W w') := fun W h => lead_any s z W h
  have hsm := leadR_small s
  unfold Stn.cells at HO
  unfold Stn.val Stn.cells
  unfold pairV leastR sumL
  generalize leadR s = r at *
  obtain ⟨xs, e0⟩ := r
  simp only at HO hsm ⊢
  go_enter Try.func18, Try.ntmps18
  go_wp2_with fail
  refine (HO.out _ (hs.alloc _)).mono ?_
  rintro e w1 ⟨v, rfl, ho, hb1⟩
  have hB : Below w.heap.size w w1 := ((Below.refl _ _).alloc (Nat.le_refl _) _).trans (hb1.mono (by simp))
  obtain ⟨A1, c1, rfl, _, rl, _⟩ := own_form ho
  have HT := Lib.hid (total_any A1 c1 xs w1 rl (by omega) (fun x hx => by have := hsm.2 x hx; omega))
  go_wp2_with (go_at_call 62; refine (HT.out).mono ?_; rintro e w' ⟨rfl, rfl⟩)
  go_ret2
  exact ⟨rfl, hB⟩

end Go.Proofs.Ythmngnfdfelkeaa
namespace Go.Proofs.Ythmngnfdfelkeaa
open Go.RowKit
attribute [local go_sem ↓] max_int min_int

/-- A box: the bounds for each of eight pockets. -/
def boxA (lo hi : List Int) : Array Value := (intCells (lo ++ hi)).toArray
theorem boxA_size {lo hi : List Int} (h1 : lo.length = 8) (h2 : hi.length = 8) : (boxA lo hi).size = 16 := by simp [boxA, intCells, h1, h2]
theorem boxA_lo {lo hi : List Int} (h1 : lo.length = 8) {i : Nat} (hi8 : i < 8) : (boxA lo hi)[i]? = some (.int .i64 (lo.getD i 0)) := by
  simp only [boxA, intCells, List.getElem?_toArray, List.getElem?_map]
  rw [List.getElem?_append_left (by omega), List.getElem?_eq_getElem (by omega), getD_get _ _ (by omega)]
  rfl
theorem boxA_hi {lo hi : List Int} (h1 : lo.length = 8) (h2 : hi.length = 8) {i : Nat} (hi8 : i < 8) : (boxA lo hi)[8 + i]? = some (.int .i64 (hi.getD i 0)) := by
  simp only [boxA, intCells, List.getElem?_toArray, List.getElem?_map]
  rw [List.getElem?_append_right (by omega), show 8 + i - lo.length = i by omega, List.getElem?_eq_getElem (by omega), getD_get _ _ (by omega)]
  rfl
theorem boxA_set {lo hi : List Int} (h1 : lo.length = 8) {i : Nat} (x : Int) : (boxA lo hi).setIfInBounds (8 + i) (.int .i64 x) = boxA lo (hi.set i x) := by
  apply Array.toList_inj.1
  simp only [boxA, intCells, Array.toList_setIfInBounds, List.map_append, List.map_set]
  rw [List.set_append_right _ _ (by simp; omega)]
  congr 2
  simp
  omega
theorem boxA_one (lo hi : List Int) : (boxA lo hi).all (·.oneCell') = true := by
  rw [Array.all_eq_true_iff_forall_mem]
  intro u hu
  simp only [boxA, List.mem_toArray] at hu
  obtain ⟨x, _, rfl⟩ := List.mem_map.1 hu
  rfl
theorem Bk_setRow {w : World} {g : Nat} {t : TypeId} {old : Array Value} (h : Bk w g t old) (cs : Array Value) : Bk (w.setRow g cs) g t cs := setRow_heap w g old cs t (0, 0) h
theorem boxA_load {w : World} {b : Nat} {t : TypeId} {lo hi : List Int} (h1 : lo.length = 8) (h2 : hi.length = 8) (h : Bk w b t (boxA lo hi)) : (Instr.loadAt 103 (.pointer (some ⟨b, 0, none⟩))).run Try.prog w = .ok (.agg (boxA lo hi)) w := by
  simp only [Instr.loadAt, Instr.sureAddr, Sem.run_bind, Sem.run_pure, Result.andThen_ok, run_loadVar_row w b t 103 (boxA lo hi) (0, 0) _ h Try.underlying103 rfl (by rw [boxA_size h1 h2]; kernel_rfl)]

/-- The bounds of all leads, as far as the first k pockets. -/
def highK (s : Stn) (k : Nat) : List Int := (List.range 8).map fun i => if i < k then (s.pockets.getD i ((0, 0), 0)).2 else 0
theorem highK_len (s : Stn) (k : Nat) : (highK s k).length = 8 := by simp [highK]
theorem highK_succ (s : Stn) (k : Nat) : (highK s k).set k (s.pockets.getD k ((0, 0), 0)).2 = highK s (k + 1) := by
  apply List.ext_getElem
  · simp [highK]
  · intro i h1 h2
    rw [List.getElem_set]
    simp only [highK, List.getElem_map, List.getElem_range]
    by_cases e : k = i
    · subst e; simp
    · rw [if_neg e]
      by_cases h : i < k
      · rw [if_pos h, if_pos (by omega)]
      · rw [if_neg h, if_neg (by omega)]
def lowZ : List Int := List.replicate 8 0

set_option maxRecDepth 100000 in
set_option maxHeartbeats 2000000 in
theorem whole_any (g : Nat) (s : Stn) (z : Loc) (m : Array Value) (w : World) (R : Bk w g 98 (s.cells z ++ m)) (hs : StAt w s z) (hok : s.ok = true) :
    Calls Try.prog 74 #[.pointer (some ⟨g, 0, none⟩)] w fun e w' => e = .returned (.agg (boxA lowZ (highK s s.pockets.length))) ∧ Below w.heap.size w w' := by
  have hpl := (stn_ok hok).2.2.2.2.1
  have hgl := R.lt
  obtain ⟨_, _, _, _, _, _, x6, _⟩ := stn_cell R
  have HB := Lib.hid (And.intro hs R)
  clear hs R
  go_enter Try.func74, Try.ntmps74
  go_upto_region 2 with fail
  have E : Bk ((w.alloc (.cells #[.int .i64 0, .int .i64 0, .int .i64 0, .int .i64 0, .int .i64 0, .int .i64 0, .int .i64 0, .int .i64 0, .int .i64 0, .int .i64 0, .int .i64 0, .int .i64 0, .int .i64 0, .int .i64 0, .int .i64 0, .int .i64 0] 103)).alloc (.cells #[.int .i64 0, .int .i64 0, .int .i64 0, .int .i64 0, .int .i64 0, .int .i64 0, .int .i64 0, .int .i64 0, .int .i64 0, .int .i64 0, .int .i64 0, .int .i64 0, .int .i64 0, .int .i64 0, .int .i64 0, .int .i64 0] 103)) w.heap.size 103 (boxA lowZ lowZ) := (bk_last rfl).alloc _
  have V : Bk ((w.alloc (.cells #[.int .i64 0, .int .i64 0, .int .i64 0, .int .i64 0, .int .i64 0, .int .i64 0, .int .i64 0, .int .i64 0, .int .i64 0, .int .i64 0, .int .i64 0, .int .i64 0, .int .i64 0, .int .i64 0, .int .i64 0, .int .i64 0] 103)).alloc (.cells #[.int .i64 0, .int .i64 0, .int .i64 0, .int .i64 0, .int .i64 0, .int .i64 0, .int .i64 0, .int .i64 0, .int .i64 0, .int .i64 0, .int .i64 0, .int .i64 0, .int .i64 0, .int .i64 0, .int .i64 0, .int .i64 0] 103)) (w.heap.size + 1) 103 (boxA lowZ (highK s 0)) := by
    rw [show highK s 0 = lowZ by simp [highK, lowZ]; rfl]
    exact bk_last (by simp)
  have hB : Below w.heap.size w ((w.alloc (.cells #[.int .i64 0, .int .i64 0, .int .i64 0, .int .i64 0, .int .i64 0, .int .i64 0, .int .i64 0, .int .i64 0, .int .i64 0, .int .i64 0, .int .i64 0, .int .i64 0, .int .i64 0, .int .i64 0, .int .i64 0, .int .i64 0] 103)).alloc (.cells #[.int .i64 0, .int .i64 0, .int .i64 0, .int .i64 0, .int .i64 0, .int .i64 0, .int .i64 0, .int .i64 0, .int .i64 0, .int .i64 0, .int .i64 0, .int .i64 0, .int .i64 0, .int .i64 0, .int .i64 0, .int .i64 0] 103)) := ((Below.refl _ _).alloc (Nat.le_refl _) _).alloc (by simp) _
  generalize (w.alloc (.cells _ 103)).alloc (.cells _ 103) = U at *
  clear x6
  obtain ⟨_, _, _, _, _, _, x6, _⟩ := stn_cell (HB.out.2.below hB hgl)
  go_wp2_with fail
  clear x6
  go_loopw [12] (fun i wr => ∃ k : Nat, k ≤ s.pockets.length ∧ i = .int .i64 k ∧ Bk wr w.heap.size 103 (boxA lowZ lowZ) ∧ Bk wr (w.heap.size + 1) 103 (boxA lowZ (highK s k)) ∧ Below w.heap.size w wr) (fun i _ => s.pockets.length - (intOf i).toNat)
  case atStart => exact ⟨0, Nat.zero_le _, rfl, E, V, hB⟩
  case round =>
    clear E V hB
    obtain ⟨k, hk, rfl, E, V, hB⟩ := hrel
    by_cases hlt : k < s.pockets.length
    · have hkI : (k : Int) < s.pockets.length := by omega
      have hk8 : (k : Int) < 8 := by omega
      obtain ⟨b, off, hA, hb, hc⟩ := (HB.out.1.below hB).pockets.pk (by omega)
      obtain ⟨c0, c1, c2⟩ := hc k hlt
      clear hc
      have HS := Lib.hid (highK_succ s k)
      generalize s.pockets.getD k ((0, 0), 0) = p at *
      obtain ⟨⟨px, py⟩, pm⟩ := p
      simp only at c0 c1 c2 HS
      have v0 := V.cell (8 + k)
      rw [boxA_hi rfl (highK_len _ _) (by omega)] at v0
      have v1 := V.fz (8 + k)
      have Vl := V.lt
      have El := E.lt
      have HV := Lib.hid V
      have HE := Lib.hid E
      have hz := hB.size
      rw [hA]
      clear hA V E
      go_wp2_with fail
      go_roundw
      case rel =>
        refine ⟨k + 1, by omega, by go_num, ((HE.out.far (by simp) _).alloc _), ?_, (hB.setCell (by simp) _).alloc (by simpa using hz) _⟩
        have h := (HV.out.put (8 + k) (.int .i64 pm)).alloc (.cells #[.int .i64 px, .int .i64 py, .int .i64 pm] 71)
        rw [boxA_set rfl, HS.out] at h
        exact h
      case measure => simp [intOf]; omega
    · have : k = s.pockets.length := by omega
      subst this
      have hoc : (boxA lowZ (highK s s.pockets.length)).all (·.oneCell') = true := boxA_one _ _
      have hsz : (boxA lowZ (highK s s.pockets.length)).size = 16 := boxA_size rfl (highK_len _ _)
      have hi : (Try.prog.info? 103).map (·.size) = some (boxA lowZ (highK s s.pockets.length)).size := by rw [hsz]; kernel_rfl
      have ho : (boxA lowZ lowZ).size = (boxA lowZ (highK s s.pockets.length)).size := by rw [hsz]; rfl
      have HV := Lib.hid V
      have HE := Lib.hid E
      have HI := Lib.hid (And.intro hi (And.intro ho hoc))
      clear V E hi ho hoc hsz
      generalize hbx : boxA lowZ (highK s s.pockets.length) = bx at *
      have HBX := Lib.hid hbx
      clear hbx
      go_wp2_with (first | (refine wpList_load_row rfl 103 _ rfl (w.heap.size + 1) rfl 103 bx (0, 0) _ HV.out Try.underlying103 rfl HI.out.1 ?_) | (refine wpList_store_row rfl 103 _ _ rfl w.heap.size bx rfl rfl 103 (boxA lowZ lowZ) HE.out HI.out.1 HI.out.2.1 HI.out.2.2 ?_))
      refine ⟨rfl, ?_⟩
      have E2 : Bk (wr.setRow w.heap.size bx) w.heap.size 103 bx := Bk_setRow HE.out _
      refine ⟨_, results_cell_row (ty := 103) rfl _ _ w.heap.size 103 bx (0, 0) _ rfl E2 Try.underlying103 rfl HI.out.1, by rw [HBX.out], below_setRow hB (Nat.le_refl _) _⟩

end Go.Proofs.Ythmngnfdfelkeaa
