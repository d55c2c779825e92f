/-
  What is proved: how a row's argument of type Ask opens.
  What is proved: the contract of the reference's following.
-/
import Derived.Test.YthmngnfdfelkeaaArgsMg
import Derived.Test.YthmngnfdfelkeaaMg9
import Derived.Maps.AppendAt
namespace Go.Proofs.Ythmngnfdfelkeaa
open Go.ChangeShapes Go.WideShapes Go.ChangeAt Go.RowKit Go.Joins

/-- The cells of a question: its cell, lead, way, sum and tree. -/
def askA (cell : Int) (A : Option Addr) (c : Nat) (L : List Int) (way : Int × Int) (sum : Int) (t0 t1 t2 t3 t4 t5 : Value) : Array Value :=
  #[.int .i64 cell, .slice A L.length c, .int .i64 way.1, .int .i64 way.2, .int .i64 sum, t0, t1, t2, t3, t4, t5]

section
variable {H : Type} {enc : TypeId × Value → H} {W : World} {b0 : Nat} {v : Value} {d : DataW H} {p : List MemPlace}

set_option maxRecDepth 100000 in
theorem rd_ask {n : Nat} {cs : List Value} {x : DataW H × List MemPlace} (h : DataW.trod enc Try.prog W 0 (fun _ => true) true n 51 cs = some x) :
    ∃ (cell : Int) (A : Option Addr) (c : Nat) (L : List Int) (way : Int × Int) (sum : Int) (t0 t1 t2 t3 t4 t5 : Value), cs = (askA cell A c L way sum t0 t1 t2 t3 t4 t5).toList ∧ RowAt W A (intCells L) ∧ L.length ≤ 9223372036854775807 ∧
      (-9223372036854775808 ≤ cell ∧ cell ≤ 9223372036854775807) ∧ (-9223372036854775808 ≤ sum ∧ sum ≤ 9223372036854775807) := by
  obtain ⟨xs, n', _, _, hl, hxl, hf⟩ := DataW.trod_struct Try.underlying51 h
  have hl2 : cs.length = 11 := hl.trans (by kernel_rfl)
  have hx2 : xs.length = 5 := hxl
  match cs, hl2, xs, hx2 with
  | [c0, c1, c2, c3, c4, c5, c6, c7, c8, c9, c10], _, [y0, y1, y2, y3, y4], _ =>
    have h0 : DataW.trod enc Try.prog W 0 (fun _ => true) true n' 3 (([c0, c1, c2, c3, c4, c5, c6, c7, c8, c9, c10].drop 0).take (Try.prog.cellsOf 3)) = some y0 := hf 0 _ rfl
    have h1 : DataW.trod enc Try.prog W 0 (fun _ => true) true n' 22 (([c0, c1, c2, c3, c4, c5, c6, c7, c8, c9, c10].drop 1).take (Try.prog.cellsOf 22)) = some y1 := hf 1 _ rfl
    have h2 : DataW.trod enc Try.prog W 0 (fun _ => true) true n' 43 (([c0, c1, c2, c3, c4, c5, c6, c7, c8, c9, c10].drop 2).take (Try.prog.cellsOf 43)) = some y2 := hf 2 _ rfl
    have h3 : DataW.trod enc Try.prog W 0 (fun _ => true) true n' 3 (([c0, c1, c2, c3, c4, c5, c6, c7, c8, c9, c10].drop 4).take (Try.prog.cellsOf 3)) = some y3 := hf 3 _ rfl
    rw [show Try.prog.cellsOf 3 = 1 by kernel_rfl] at h0 h3
    rw [show Try.prog.cellsOf 22 = 1 by kernel_rfl] at h1
    rw [show Try.prog.cellsOf 43 = 2 by kernel_rfl] at h2
    obtain ⟨a, ea, wa⟩ := rd_int h0
    obtain ⟨A, k, L, el, hr, q1, q2⟩ := rd_ints h1
    obtain ⟨way, ew⟩ := rd_point h2
    obtain ⟨b, eb, wb⟩ := rd_int h3
    simp at ea el ew eb
    obtain ⟨e1, e2⟩ := ew
    subst ea el e1 e2 eb
    exact ⟨a, A, k, L, way, b, c5, c6, c7, c8, c9, c10, rfl, hr, Nat.le_trans q1 q2, wa, wb⟩

set_option maxRecDepth 100000 in
theorem arg_ask (h : DataW.Trod enc Try.prog W 0 (fun _ => true) true 51 v d p) (hv : Value.okWide Try.prog W .any b0 51 v) :
    ∃ (cell : Int) (A : Option Addr) (c : Nat) (L : List Int) (way : Int × Int) (sum : Int) (t0 t1 t2 t3 t4 t5 : Value), v = .agg (askA cell A c L way sum t0 t1 t2 t3 t4 t5) ∧ RowAt W A (intCells L) ∧ L.length ≤ 9223372036854775807 ∧
      (-9223372036854775808 ≤ cell ∧ cell ≤ 9223372036854775807) ∧ (-9223372036854775808 ≤ sum ∧ sum ≤ 9223372036854775807) := by
  obtain ⟨cs, rfl, hsz⟩ := okWide_struct Try.underlying51 hv
  obtain ⟨fuel, hf⟩ := h
  obtain ⟨cell, A, c, L, way, sum, t0, t1, t2, t3, t4, t5, h1, h2⟩ := rd_ask hf
  refine ⟨cell, A, c, L, way, sum, t0, t1, t2, t3, t4, t5, ?_, h2⟩
  have : cs = askA cell A c L way sum t0 t1 t2 t3 t4 t5 := Array.toList_inj.1 h1
  rw [this]

end
end Go.Proofs.Ythmngnfdfelkeaa
namespace Go.Proofs.Ythmngnfdfelkeaa
open Go.RowKit
attribute [local go_sem ↓] max_int min_int

/-- What following leaves of the k-th lead. -/
def follL (s : Stn) (k : Nat) : List Int := if k + 1 < prodM (mosts s) then leadN s (k + 1) else List.replicate s.pockets.length 0

set_option maxRecDepth 100000 in
set_option maxHeartbeats 4000000 in
theorem rfollow_any (s : Stn) (z : Loc) (G k base c : Nat) (w0 w : World) (hs : StAt w0 s z) (hok : s.ok = true) (hB0 : Below w0.heap.size w0 w) (hG : w0.heap.size ≤ G) (hk : k < prodM (mosts s))
    (hown0 : w.ownsRow base 3 1 (.slice (some ⟨G, 0, none⟩) s.pockets.length c) s.pockets.length (intCells (leadN s k))) :
    Calls Try.prog 111 #[s.val z, .slice (some ⟨G, 0, none⟩) s.pockets.length c] w fun e w' => e = .returned (.bool (decide (k + 1 < prodM (mosts s)))) ∧ w'.ownsRow base 3 1 (.slice (some ⟨G, 0, none⟩) s.pockets.length c) s.pockets.length (intCells (follL s k)) ∧ w.grownBy w' (some G) := by
  have hpl := (stn_ok hok).2.2.2.2.1
  have hml := mosts_len s
  have hmg := fun i hi => mosts_get (i := i) hok hi
  have hGl : G < w.heap.size := (hown0.lt _ rfl).2
  have hwz := hB0.size
  obtain ⟨V, hV⟩ : ∃ V, w.alloc (.cells (s.cells z) 28) = V := ⟨_, rfl⟩
  have HV := Lib.hid hV
  have X : Bk V w.heap.size 28 (s.cells z) := by rw [← hV]; exact bk_last rfl
  have hgV : w.grownBy V (some G) := by rw [← hV]; exact World.grownBy_alloc _ _ _
  have hownV : V.ownsRow base 3 1 (.slice (some ⟨G, 0, none⟩) s.pockets.length c) s.pockets.length (intCells (toI (leadAt (mosts s) k))) := by rw [← hV]; exact hown0.alloc _
  have hnoI : (s.pockets.length : Int) - 1 = (s.pockets.length : Int) - 1 := rfl
  clear hV hown0 hnoI
  unfold Stn.cells at HV
  unfold Stn.val Stn.cells
  go_enter Try.func111, Try.ntmps111
  go_upto_region 2 with fail
  rw [HV.out]
  clear HV
  have hll : (leadAt (mosts s) k).length = s.pockets.length := by rw [leadAt_len, hml]
  go_loopw [5] (fun i wr => ∃ j : Nat, j ≤ s.pockets.length ∧ i = .int .i64 ((j : Int) - 1) ∧ wr.ownsRow base 3 1 (.slice (some ⟨G, 0, none⟩) s.pockets.length c) s.pockets.length (intCells ((toI (leadAt (mosts s) k)).take j ++ List.replicate (s.pockets.length - j) 0)) ∧
    Hid (∀ t, j ≤ t → t < s.pockets.length → (leadAt (mosts s) k).getD t 0 = (mosts s).getD t 0) ∧ Bk wr w.heap.size 28 (s.cells z) ∧ w.grownBy wr (some G)) (fun i _ => (intOf i + 1).toNat)
  case atStart =>
    refine ⟨s.pockets.length, Nat.le_refl _, rfl, ?_, fun t h1 h2 => by omega, X, hgV⟩
    have hst : intCells (toI (leadAt (mosts s) k)) = intCells ((toI (leadAt (mosts s) k)).take s.pockets.length ++ List.replicate (s.pockets.length - s.pockets.length) 0) := by
      rw [List.take_of_length_le (by rw [toI_len, leadAt_len, hml]; omega)]
      simp
    rw [← hst]; exact hownV
  case round =>
    clear hownV X hgV
    obtain ⟨j, hj, rfl, hown, hall, X, hgr⟩ := hrel
    rcases Nat.eq_zero_or_pos j with h0 | h0
    · subst h0
      have hend : ¬ k + 1 < prodM (mosts s) := fun h2 => by
        have h1 := nextL_at (mosts s) k hk
        rw [nextL_last (mosts s) (leadAt (mosts s) k) (leadAt_len _ _) (fun t ht => hall.out t (Nat.zero_le _) (by omega)), if_pos h2] at h1
        cases h1
      have HD : Hid (decide (k + 1 < prodM (mosts s)) = false ∧ follL s k = List.replicate s.pockets.length 0) := ⟨by simp [hend], by simp [follL, hend]⟩
      clear hall hend
      have HO := Lib.hid hown
      clear hown
      go_wp2_with fail
      go_ret
      refine ⟨by first | (rw [HD.out.1]; done) | (rw [HD.out.1]; rfl), ?_, hgr⟩
      rw [HD.out.2]
      have := HO.out
      simpa using this
    · obtain ⟨i, rfl⟩ : ∃ i, j = i + 1 := ⟨j - 1, by omega⟩
      have hil : i < (toI (leadAt (mosts s) k)).length := by rw [toI_len]; omega
      have hcast : (((i + 1 : Nat) : Int) - 1) = (i : Int) := by omega
      rw [hcast]
      have hiI : (i : Int) < s.pockets.length := by omega
      have hc := hown.cellAt i (by omega)
      have hci : (intCells ((toI (leadAt (mosts s) k)).take (i + 1) ++ List.replicate (s.pockets.length - (i + 1)) 0))[i]? = some (.int .i64 (((leadAt (mosts s) k).getD i 0 : Nat) : Int)) := by
        unfold intCells
        rw [List.getElem?_map, List.getElem?_append_left (by simp; omega), List.getElem?_take, if_pos (by omega), List.getElem?_eq_getElem hil, ← toI_get, getD_get _ _ hil]
        rfl
      rw [hci] at hc
      clear hci hcast
      obtain ⟨_, _, _, _, _, _, x6, _⟩ := stn_cell0 X
      obtain ⟨b, off, hA, hb, hc2⟩ := hs.pockets.pk (by omega)
      obtain ⟨_, _, c2⟩ := hc2 i (by omega)
      rw [hmg i (by omega)] at c2
      have c3 := hgr.cell (keepc hB0 c2) (by simp; omega)
      rw [hA] at x6
      clear hA hc2 c2
      by_cases he : (leadAt (mosts s) k).getD i 0 = (mosts s).getD i 0
      · have hall' : Hid (∀ t, i ≤ t → t < s.pockets.length → (leadAt (mosts s) k).getD t 0 = (mosts s).getD t 0) := fun t h1 h2 => by
          rcases Nat.lt_or_ge i t with h | h
          · exact hall.out t h h2
          · have : t = i := by omega
            subst this
            exact he
        have fz := hown.frozenAt i
        have HO := Lib.hid hown
        clear hall hown
        rw [he] at hc
        clear he
        generalize (mosts s).getD i 0 = v at *
        go_upto_region 4 with fail
        go_quiet (fail)
        go_wp2_with fail
        have hnx := ((show (wr.drewN nq).ownsRow base 3 1 _ _ _ from HO.out).stored i (.int .i64 0)).1
        rw [set_zero_scan _ i _ hil (by rw [toI_len]; omega), show s.pockets.length - (i + 1) + 1 = s.pockets.length - i by omega] at hnx
        go_roundw
        case rel => exact ⟨i, by omega, by go_num, hnx, hall', (show Bk (wr.drewN nq) w.heap.size 28 _ from X).far (p := ⟨G, i, none⟩) (by simp; omega) _, hgr.trans (⟨rfl, rfl, rfl, by simp, fun b _ hb => Below.heap_setCell _ ⟨G, i, none⟩ _ b (fun e => hb (by rw [e]))⟩ : wr.grownBy ((wr.drewN nq).setCell ⟨G, i, none⟩ (.int .i64 0)) (some G))⟩
        case measure => first | (simp [intOf]; done) | (simp [intOf]; omega)
      · have hle := inM_get (leadAt_in hk) i (by omega)
        have hlt2 : (leadAt (mosts s) k).getD i 0 < (mosts s).getD i 0 := by omega
        have hm255 : (mosts s).getD i 0 ≤ 255 := by
          obtain ⟨_, _, _, _, _, _, _, _, hp⟩ := stn_ok hok
          have := (hp _ (getD_mem ((0, 0), 0) (show i < s.pockets.length by omega))).2.2
          rw [hmg i (by omega)] at this
          omega
        have hnx := nextL_at (mosts s) k hk
        rw [nextL_scan (mosts s) (leadAt (mosts s) k) i (leadAt_len _ _) (by omega) (fun t h1 h2 => hall.out t h1 (by omega)) hlt2] at hnx
        have hk1 : k + 1 < prodM (mosts s) := by
          by_cases h2 : k + 1 < prodM (mosts s)
          · exact h2
          · rw [if_neg h2] at hnx; cases hnx
        rw [if_pos hk1] at hnx
        injection hnx with hnx
        have hnx2 : (toI (leadAt (mosts s) k)).take i ++ ((((leadAt (mosts s) k).getD i 0 : Nat) : Int) + 1) :: List.replicate (s.pockets.length - (i + 1)) 0 = toI (leadAt (mosts s) (k + 1)) := by
          rw [← hnx, toI_app, toI_take, hll, show s.pockets.length - i - 1 = s.pockets.length - (i + 1) by omega]
          simp [toI]
        have fz := hown.frozenAt i
        have HO := Lib.hid hown
        have HN := Lib.hid hnx2
        have HD : Hid (decide (k + 1 < prodM (mosts s)) = true ∧ follL s k = toI (leadAt (mosts s) (k + 1))) := ⟨by simp [hk1], by simp [follL, hk1, leadN]⟩
        clear hall hown hnx hnx2 hk1 hle
        generalize hlv : (leadAt (mosts s) k).getD i 0 = u at *
        generalize (mosts s).getD i 0 = v at *
        have huv : (u : Int) < (v : Int) := by omega
        clear hlv he
        go_upto_region 4 with fail
        go_quiet (fail)
        go_wp2_with fail
        have hnx := ((show (wr.drewN nq).ownsRow base 3 1 _ _ _ from HO.out).stored i (.int .i64 ((u : Int) + 1))).1
        rw [set_next_scan _ i _ _ hil, HN.out] at hnx
        go_ret
        refine ⟨by first | (rw [HD.out.1]; done) | (rw [HD.out.1]; rfl), by rw [HD.out.2]; exact hnx, hgr.trans (⟨rfl, rfl, rfl, by simp, fun b _ hb => Below.heap_setCell _ ⟨G, i, none⟩ _ b (fun e => hb (by rw [e]))⟩ : wr.grownBy ((wr.drewN nq).setCell ⟨G, i, none⟩ (.int .i64 ((u : Int) + 1))) (some G))⟩

end Go.Proofs.Ythmngnfdfelkeaa
