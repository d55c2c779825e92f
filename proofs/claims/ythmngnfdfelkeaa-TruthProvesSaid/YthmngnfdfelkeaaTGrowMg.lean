/-
  What is proved: the contract of (*prover).grow.
-/
import Derived.Test.YthmngnfdfelkeaaTGTail2Mg
namespace Go.Proofs.Ythmngnfdfelkeaa
open Go.RowKit
attribute [local go_sem ↓] max_int min_int

theorem sure_ix0 (W : World) : (Instr.index 156 (.agg #[.int .i64 1, .int .i64 0, .int .i64 (-1), .int .i64 0, .int .i64 0, .int .i64 1, .int .i64 0, .int .i64 (-1)]) (.int .i64 0)).run Try.prog W = .ok (.agg #[.int .i64 1, .int .i64 0]) W := by kernel_rfl
theorem sure_ix1 (W : World) : (Instr.index 156 (.agg #[.int .i64 1, .int .i64 0, .int .i64 (-1), .int .i64 0, .int .i64 0, .int .i64 1, .int .i64 0, .int .i64 (-1)]) (.int .i64 1)).run Try.prog W = .ok (.agg #[.int .i64 (-1), .int .i64 0]) W := by kernel_rfl
theorem sure_ix2 (W : World) : (Instr.index 156 (.agg #[.int .i64 1, .int .i64 0, .int .i64 (-1), .int .i64 0, .int .i64 0, .int .i64 1, .int .i64 0, .int .i64 (-1)]) (.int .i64 2)).run Try.prog W = .ok (.agg #[.int .i64 0, .int .i64 1]) W := by kernel_rfl
theorem sure_ix3 (W : World) : (Instr.index 156 (.agg #[.int .i64 1, .int .i64 0, .int .i64 (-1), .int .i64 0, .int .i64 0, .int .i64 1, .int .i64 0, .int .i64 (-1)]) (.int .i64 3)).run Try.prog W = .ok (.agg #[.int .i64 0, .int .i64 (-1)]) W := by kernel_rfl
theorem sure_at {k : Int} (h0 : 0 ≤ k) (h1 : k < 4) : ∃ wx wy : Int, wayB (wx, wy) = true ∧ (∀ W : World, (Instr.index 156 (.agg #[.int .i64 1, .int .i64 0, .int .i64 (-1), .int .i64 0, .int .i64 0, .int .i64 1, .int .i64 0, .int .i64 (-1)]) (.int .i64 k)).run Try.prog W = .ok (.agg #[.int .i64 wx, .int .i64 wy]) W) ∧ sureL.getD k.toNat (0, 0) = (wx, wy) := by
  have h : k = 0 ∨ k = 1 ∨ k = 2 ∨ k = 3 := by omega
  rcases h with rfl | rfl | rfl | rfl
  · exact ⟨1, 0, rfl, sure_ix0, rfl⟩
  · exact ⟨-1, 0, rfl, sure_ix1, rfl⟩
  · exact ⟨0, 1, rfl, sure_ix2, rfl⟩
  · exact ⟨0, -1, rfl, sure_ix3, rfl⟩

theorem grow_setP {w w' : World} {b o : Nat} {v : Value} (h : w.grownBy w' (some b)) : w.grownBy (w'.setCell ⟨b, o, none⟩ v) (some b) :=
  ⟨h.os, h.tape, h.output, by have := h.size; simpa using this, fun k hk hne => (Below.heap_setCell w' ⟨b, o, none⟩ v k (fun e => hne (by rw [e]))).trans (h.block k hk hne)⟩
theorem grow_leaf {g Pb : Nat} {s : Stn} {sum k wx wy : Int} {lo hi : List Int} {m : Nat} {w w' : World} (hg : w.grownBy w' (some Pb)) (hP : Bk w' Pb 133 (proverA g sum m)) (hv : 1 ≤ volF lo hi 8) (hc : ∀ n, 1 ≤ n → ∃ m, checkF s sum n (.mk k 0 0 (wx, wy) none 0 []) lo hi = some m) :
    GrowPost g Pb s sum lo hi (m + 1) w (.returned (.tuple #[.agg #[.int .i64 k, .int .i64 0, .int .i64 0, .int .i64 wx, .int .i64 wy, .slice none 0 0], .bool true])) w' := by
  refine ⟨k, 0, 0, wx, wy, none, 0, [], true, m, rfl, hg, hP, fun _ => ⟨.mk (fun h => by simp [kidCells] at h) (by simp) (by simp) (fun _ => ⟨rfl, rfl⟩), .mk (fun x e => by cases e) (by simp), ?_, by omega, ?_, fun n h => hc n (by simp only [sizeT, sizeL] at h; omega)⟩, fun h => by cases h⟩
  · simp only [sizeT, sizeL]; omega
  · simp only [sizeT, sizeL]; omega
theorem leaf_sum {s : Stn} {sum : Int} {lo hi : List Int} (h : sum ≤ sumF lo 8) : ∀ n, 1 ≤ n → ∃ m, checkF s sum n (.mk 1 0 0 (0, 0) none 0 []) lo hi = some m
  | 0, h => by omega
  | n + 1, _ => ⟨1, by simp [checkF, sumB, h]⟩
theorem leaf_apart {s : Stn} {sum : Int} {lo hi : List Int} {way : Int × Int} (hw : wayB way = true) (h : apartB s way lo hi = true) : ∀ n, 1 ≤ n → ∃ m, checkF s sum n (.mk 2 0 0 way none 0 []) lo hi = some m
  | 0, h => by omega
  | n + 1, _ => ⟨1, by simp [checkF, farT, hw, h]⟩
theorem widest_ok {s : Stn} (h : s.ok = true) {sum : Int} (hs : ∀ l, leadP s l → stillB s l = true → sum ≤ sumL l) {lo hi : List Int} (hb : BoxIn s lo hi) (h2 : ¬ sum ≤ sumF lo 8)
    (a0 : apartB s (1, 0) lo hi = false) (a1 : apartB s ((-1), 0) lo hi = false) (a2 : apartB s (0, 1) lo hi = false) (a3 : apartB s (0, (-1)) lo hi = false) {p : Nat} (hp : p < 8) (hm : ∀ i, i < 8 → hi.getD i 0 - lo.getD i 0 ≤ hi.getD p 0 - lo.getD p 0) : lo.getD p 0 < hi.getD p 0 ∧ p < s.pockets.length := by
  have h1 : lo.getD p 0 < hi.getD p 0 := by
    by_cases h3 : lo.getD p 0 < hi.getD p 0
    · exact h3
    · obtain ⟨x, hx, hx2⟩ := point_leaf h hs hb (fun i hi' => by have := hm i hi'; omega) h2
      simp only [sureL, List.mem_cons, List.not_mem_nil, or_false] at hx
      rcases hx with rfl | rfl | rfl | rfl
      · rw [a0] at hx2; cases hx2
      · rw [a1] at hx2; cases hx2
      · rw [a2] at hx2; cases hx2
      · rw [a3] at hx2; cases hx2
  refine ⟨h1, ?_⟩
  rcases Nat.lt_or_ge p s.pockets.length with h3 | h3
  · exact h3
  · have := hb.zero h h3 hp
    omega

set_option maxRecDepth 1000000 in
set_option maxHeartbeats 16000000 in
theorem grow_any (g Pb : Nat) (s : Stn) (z : Loc) (sum : Int) (hok : s.ok = true) (w0 : World) (hs0 : StAt w0 s z) (R0 : Bk w0 g 98 (s.cells z ++ runM s)) (hPb0 : w0.heap.size ≤ Pb) (hsum : ∀ l, leadP s l → stillB s l = true → sum ≤ sumL l) :
    ∀ n : Nat, n ≤ 1000000000 → GrowAt g Pb s sum w0 n := by
  intro n
  induction n using Nat.strongRecOn with
  | ind n ih0 =>
    intro hn9 lo hi w hbx hB0 hP
    have hPw := hP.lt
    have hbo := hbx.ok hok
    have hvp := vol_pos hbx
    have HV := Lib.hid hvp
    have hgP : g < Pb := Nat.lt_of_lt_of_le R0.lt hPb0
    have H62 : Hid (∀ (W : World) (q : Nat), Bk W q 103 (boxA lo hi) → Calls Try.prog 62 #[.slice (some ⟨q, 0, none⟩) 8 8] W fun e w' => e = .returned (.int .i64 (sumF lo 8)) ∧ W = w') := fun W q hq => by
      have h := total_any (some ⟨q, 0, none⟩) 8 lo W (fun _ => ⟨q, 0, rfl, hq.lt, fun j u hu => by
        have hj : j < 8 := by have := (List.getElem?_eq_some_iff.1 hu).1; rw [intCells_len, hbx.1] at this; exact this
        rw [Nat.zero_add, hq.cell, boxA_lo hbx.1 hj, ← hu]
        simp only [intCells, List.getElem?_map]
        rw [List.getElem?_eq_getElem (by rw [hbx.1]; exact hj), getD_get _ _ (by rw [hbx.1]; exact hj)]
        rfl⟩) (by rw [hbx.1]; omega) (fun x hx => by
        obtain ⟨i, hi, rfl⟩ := List.getElem_of_mem hx
        have := hbo.2.2 i (by rw [hbx.1] at hi; exact hi)
        rw [getD_get _ _ hi] at this
        omega)
      rw [hbx.1] at h
      exact h
    have H80 : Hid (∀ (x y : Int), wayB (x, y) = true → ∀ W, Below w0.heap.size w0 W → Calls Try.prog 80 #[.pointer (some ⟨g, 0, none⟩), .agg (boxA lo hi), .agg #[.int .i64 x, .int .i64 y]] W fun e w' => e = .returned (.bool (apartB s (x, y) lo hi)) ∧ Below W.heap.size W w') := fun x y hw W h => apart_any g s z lo hi (x, y) W (R0.below h R0.lt) (hs0.below h) hok (wayB_ok hw) hbo
    have H127 : Hid (∀ W, Calls Try.prog 127 #[.agg (boxA lo hi)] W fun e w' => ∃ at_ : Nat, e = .returned (.int .i64 at_) ∧ at_ < 8 ∧ (∀ i, i < 8 → hi.getD i 0 - lo.getD i 0 ≤ hi.getD at_ 0 - lo.getD at_ 0) ∧ Below W.heap.size W w') := fun W => widest_any lo hi W hbo
    obtain ⟨L, hL⟩ : ∃ L : Int, (n : Int) = L := ⟨_, rfl⟩
    rw [hL] at hP
    obtain ⟨U, hU⟩ : ∃ U, (w.alloc (.cells (boxA lo hi) 103)).alloc (.cells #[.int .i64 0, .int .i64 0, .int .i64 0, .int .i64 0, .int .i64 0, .slice none 0 0] 49) = U := ⟨_, rfl⟩
    have B4 : Bk U w.heap.size 103 (boxA lo hi) := by rw [← hU]; exact (bk_last rfl).alloc _
    have R5 : Bk U (w.heap.size + 1) 49 #[.int .i64 0, .int .i64 0, .int .i64 0, .int .i64 0, .int .i64 0, .slice none 0 0] := by rw [← hU]; exact bk_last (by simp)
    have hB : Below w.heap.size w U := by rw [← hU]; exact ((Below.refl _ _).alloc (Nat.le_refl _) _).alloc (by simp) _
    have P5 := hP.keep hB
    obtain ⟨V, hV⟩ : ∃ V, U.setCell ⟨Pb, 2, none⟩ (.int .i64 (L - 1)) = V := ⟨_, rfl⟩
    have P6 : Bk V Pb 133 (proverA g sum (L - 1)) := by rw [← hV]; exact P5.put 2 _
    have B6 : Bk V w.heap.size 103 (boxA lo hi) := by rw [← hV]; exact B4.far (p := ⟨Pb, 2, none⟩) (by simp; omega) _
    have R6 : Bk V (w.heap.size + 1) 49 #[.int .i64 0, .int .i64 0, .int .i64 0, .int .i64 0, .int .i64 0, .slice none 0 0] := by rw [← hV]; exact R5.far (p := ⟨Pb, 2, none⟩) (by simp; omega) _
    have hg6 : w.grownBy V (some Pb) := by rw [← hV]; exact grow_setP (grow_below hB)
    have hB06 : Below w0.heap.size w0 V := hB0.grown hg6 hB0.size (fun r e => by have := Option.some.inj e; omega)
    obtain ⟨l0, l1, l2, l3, l4, l5, l6, l7, hle⟩ := len8 hbx.1
    obtain ⟨h0, h1, h2, h3, h4, h5, h6, h7, hhe⟩ := len8 hbx.2.1
    have hbe : boxA lo hi = #[.int .i64 l0, .int .i64 l1, .int .i64 l2, .int .i64 l3, .int .i64 l4, .int .i64 l5, .int .i64 l6, .int .i64 l7, .int .i64 h0, .int .i64 h1, .int .i64 h2, .int .i64 h3, .int .i64 h4, .int .i64 h5, .int .i64 h6, .int .i64 h7] := by rw [hle, hhe]; rfl
    have HBX := Lib.hid hbx
    have HSM := Lib.hid hsum
    have HIH := Lib.hid ih0
    have hsU := hB.size
    have hszU : w.heap.size + 2 ≤ U.heap.size := by have := R5.lt; omega
    clear hle hhe hbo hbx hsum ih0 hvp hP hB B4 R5
    have HBE := Lib.hid hbe
    rw [hbe] at hU
    rw [show (Value.agg (boxA lo hi)) = .agg #[.int .i64 l0, .int .i64 l1, .int .i64 l2, .int .i64 l3, .int .i64 l4, .int .i64 l5, .int .i64 l6, .int .i64 l7, .int .i64 h0, .int .i64 h1, .int .i64 h2, .int .i64 h3, .int .i64 h4, .int .i64 h5, .int .i64 h6, .int .i64 h7] by rw [hbe]]
    have HU := Lib.hid hU
    have HVV := Lib.hid hV
    clear hU hV hbe
    have p1 := P5.cell 2
    have pf := P5.fz 2
    have pl := P5.lt
    simp [proverA] at p1
    have hwr := IntWalk.i64_in (L - 1) (by omega)
    clear P5
    rcases Nat.eq_zero_or_pos n with hn0 | hn0
    · subst hn0
      have hneg : L - 1 < 0 := by omega
      have hLv : L = 0 := by omega
      have HL := Lib.hid hLv
      clear hLv hL hn9
      have HG := Lib.hid (And.intro hg6 (And.intro P6 R6))
      clear hg6 P6 R6 B6 hB06 hB0
      go_enter Try.func103, Try.ntmps103
      go_upto_region 1 with fail
      rw [HU.out]
      clear HU
      go_upto_region 3 with fail
      rw [HVV.out]
      clear HVV p1 pf pl
      have r0 := HG.out.2.2.cell 0
      have r1 := HG.out.2.2.cell 1
      have r2 := HG.out.2.2.cell 2
      have r3 := HG.out.2.2.cell 3
      have r4 := HG.out.2.2.cell 4
      have r5 := HG.out.2.2.cell 5
      have rf0 := HG.out.2.2.fz 0
      have rf1 := HG.out.2.2.fz 1
      have rf2 := HG.out.2.2.fz 2
      have rf3 := HG.out.2.2.fz 3
      have rf4 := HG.out.2.2.fz 4
      have rf5 := HG.out.2.2.fz 5
      have rl := HG.out.2.2.lt
      simp at r0 r1 r2 r3 r4 r5
      go_wp2_with fail
      refine bodyPost_ret (v := .tuple #[.agg #[.int .i64 0, .int .i64 0, .int .i64 0, .int .i64 0, .int .i64 0, .slice none 0 0], .bool false]) (by simp [results, Try.results103, go_sem, r0, r1, r2, r3, r4, r5]) rfl ?_
      exact ⟨0, 0, 0, 0, 0, none, 0, [], false, L - 1, rfl, grow_set6 HG.out.1 (by omega), far6 HG.out.2.1 (by omega), (fun h => by cases h), fun _ => by have := HV.out; omega⟩
    · obtain ⟨m, rfl⟩ : ∃ m, n = m + 1 := ⟨n - 1, by omega⟩
      have hpos : ¬ L - 1 < 0 := by omega
      have hLm : L - 1 = m := by omega
      have HLM := Lib.hid hLm
      rw [hLm] at P6
      have hmn : m ≤ 1000000000 := by omega
      have HM := Lib.hid hmn
      clear hL hLm hmn hn9
      have HG := Lib.hid (And.intro hg6 (And.intro R6 (And.intro P6 (And.intro B6 hB06))))
      have HS1 : Hid (sum ≤ sumF lo 8 → ∀ n, 1 ≤ n → ∃ m, checkF s sum n (.mk 1 0 0 (0, 0) none 0 []) lo hi = some m) := leaf_sum
      have HT : Hid (∀ x : Ext V, Calls Try.prog 62 #[.slice (some ⟨w.heap.size, 0, none⟩) 8 8] x.w fun e w' => e = .returned (.int .i64 (sumF lo 8)) ∧ x.w = w') := fun x => H62.out x.w _ (B6.keep x.bel)
      have j0 := P6.cell 0
      have j1 := P6.cell 1
      simp [proverA] at j0 j1
      clear hg6 R6 P6 B6 hB06 H62
      have HSUM : Hid (sumF lo 8 = sumF lo 8) := rfl
      generalize hS8 : sumF lo 8 = S8 at HT HS1
      have HS8 := Lib.hid hS8
      clear hS8 HSUM
      by_cases hd : sum ≤ S8
      · have hd2 : decide (S8 ≥ sum) = true := decide_eq_true hd
        have HC := Lib.hid (HS1.out hd)
        clear HS1 hd
        go_enter Try.func103, Try.ntmps103
        go_upto_region 1 with fail
        rw [HU.out]
        clear HU
        go_upto_region 4 with fail
        rw [HVV.out]
        clear HVV p1 pf pl
        replace j0 := fun x : Ext V => keepc x.bel j0
        replace j1 := fun x : Ext V => keepc x.bel j1
        refine wp_region_ext (by kernel_rfl) (by kernel_rfl) ?_
        repeat (go_big_quiet_step (fail))
        go_big_quiet_step ((go_at_call 62; exact ext_same (HT.out _)))
        repeat (go_big_quiet_step (fail))
        refine wpQuiet_nil ?_
        rintro _ ⟨y, rfl⟩
        clear j0 j1 HT
        have hb2 := y.bel
        generalize y.w = w2 at hb2 ⊢
        have R7 := HG.out.2.1.keep hb2
        have HG2 := Lib.hid (And.intro (grow_trans HG.out.1 (grow_below hb2)) (HG.out.2.2.1.keep hb2))
        clear HG hb2
        have r0 := R7.cell 0
        have r1 := R7.cell 1
        have r2 := R7.cell 2
        have r3 := R7.cell 3
        have r4 := R7.cell 4
        have r5 := R7.cell 5
        have rf0 := R7.fz 0
        have rf1 := R7.fz 1
        have rf2 := R7.fz 2
        have rf3 := R7.fz 3
        have rf4 := R7.fz 4
        have rf5 := R7.fz 5
        have rl := R7.lt
        simp at r0 r1 r2 r3 r4 r5
        clear R7
        go_wp2_with fail
        refine bodyPost_ret (v := .tuple #[.agg #[.int .i64 1, .int .i64 0, .int .i64 0, .int .i64 0, .int .i64 0, .slice none 0 0], .bool true]) (by simp [results, Try.results103, go_sem, r0, r1, r2, r3, r4, r5]) rfl ?_
        exact grow_leaf (grow_set6 HG2.out.1 (by omega)) (far6 HG2.out.2 (by omega)) HV.out HC.out
      · have hd2 : decide (S8 ≥ sum) = false := decide_eq_false hd
        have HND : Hid (¬ sum ≤ sumF lo 8) := by rw [Hid, HS8.out]; exact hd
        clear HS1 hd
        go_enter Try.func103, Try.ntmps103
        go_upto_region 1 with fail
        rw [HU.out]
        clear HU
        go_upto_region 4 with fail
        rw [HVV.out]
        clear HVV p1 pf pl
        replace j0 := fun x : Ext V => keepc x.bel j0
        replace j1 := fun x : Ext V => keepc x.bel j1
        refine wp_region_ext (by kernel_rfl) (by kernel_rfl) ?_
        repeat (go_big_quiet_step (fail))
        go_big_quiet_step ((go_at_call 62; exact ext_same (HT.out _)))
        repeat (go_big_quiet_step (fail))
        refine wpQuiet_nil ?_
        rintro _ ⟨y, rfl⟩
        clear j0 j1 HT hwr hpos
        have hb2 := y.bel
        generalize y.w = w2 at hb2 ⊢
        go_upto_region 7 with (go_at_call 126; refine (sure_any _).mono ?_; rintro e w3 ⟨rfl, hb3⟩)
        obtain ⟨hg6, R6, P6, B6, hB06⟩ := HG.out
        have hb4 := hb2.trans (hb3.mono hb2.size)
        have R7 := R6.keep hb4
        have P7 := P6.keep hb4
        have B7 := B6.keep hb4
        have hg7 := grow_trans hg6 (grow_below hb4)
        have hB07 := hB06.trans (hb4.mono hB06.size)
        have hs3 := R7.lt
        have HG3 := Lib.hid (And.intro hg7 (And.intro R7 (And.intro P7 (And.intro B7 hB07))))
        clear hg6 R6 P6 B6 hB06 hb2 hb3 hb4 HG R7 P7 B7 hg7 hB07
        go_loopw [7, 38] (fun _ i wr => (∃ k : Int, i = .int .i64 k ∧ 0 ≤ k ∧ k ≤ 4 ∧ ∀ j : Nat, (j : Int) < k → apartB s (sureL.getD j (0, 0)) lo hi = false) ∧ Below w3.heap.size w3 wr) (fun _ i _ => 4 - (intOf i).toNat)
        case atStart => exact ⟨⟨0, rfl, by omega, by omega, fun j hj => by omega⟩, Below.refl _ _⟩
        case round =>
          obtain ⟨hrel, hbr⟩ := hrel
          obtain ⟨hg7, R7, P7, B7, hB07⟩ := HG3.out
          have hbr2 := hbr
          have R8 := R7.keep hbr
          have P8 := P7.keep hbr
          have B8 := B7.keep hbr
          have hg8 := grow_trans hg7 (grow_below hbr)
          have hB08 := hB07.trans (hbr.mono hB07.size)
          have hsr := hbr.size
          clear hg7 R7 P7 B7 hB07 HG3
          obtain ⟨k, rfl, hk0, hk4, hno⟩ := hrel
          by_cases hlt : k < 4
          ·
            obtain ⟨wx, wy, hww, hix, hget⟩ := sure_at hk0 hlt
            replace hix := hix wr
            have HN := Lib.hid (And.intro hno hget)
            clear hno hget
            obtain ⟨W9, hW9⟩ : ∃ W9, wr.alloc (.cells #[.int .i64 wx, .int .i64 wy] 43) = W9 := ⟨_, rfl⟩
            have Y9 : Bk W9 wr.heap.size 43 #[.int .i64 wx, .int .i64 wy] := by rw [← hW9]; exact bk_last rfl
            have hb9 : Below wr.heap.size wr W9 := by rw [← hW9]; exact (Below.refl _ _).alloc (Nat.le_refl _) _
            have B9 := B8.keep hb9
            have P9 := P8.keep hb9
            have R9 := R8.keep hb9
            have hg9 := grow_trans hg8 (grow_below hb9)
            have hB09 : Below w0.heap.size w0 W9 := hB08.trans (hb9.mono hB08.size)
            have HA := H80.out wx wy hww
            have HC : Hid (apartB s (wx, wy) lo hi = true → ∀ n, 1 ≤ n → ∃ m, checkF s sum n (.mk 2 0 0 (wx, wy) none 0 []) lo hi = some m) := fun h => leaf_apart hww h
            have HR := Lib.hid (And.intro hg9 (And.intro R9 (And.intro P9 (And.intro Y9 hb9))))
            have HA2 : Hid (∀ x : Ext W9, Calls Try.prog 80 #[.pointer (some ⟨g, 0, none⟩), .agg #[.int .i64 l0, .int .i64 l1, .int .i64 l2, .int .i64 l3, .int .i64 l4, .int .i64 l5, .int .i64 l6, .int .i64 l7, .int .i64 h0, .int .i64 h1, .int .i64 h2, .int .i64 h3, .int .i64 h4, .int .i64 h5, .int .i64 h6, .int .i64 h7], .agg #[.int .i64 wx, .int .i64 wy]] x.w fun e w' => e = .returned (.bool (apartB s (wx, wy) lo hi)) ∧ Below x.w.heap.size x.w w') := fun x => by rw [← HBE.out]; exact HA x.w (hB09.trans (x.bel.mono hB09.size))
            have HW9 := Lib.hid hW9
            have hsz9 := hb9.size
            rw [HBE.out] at B9
            have z0 := B9.cell 0
            have z1 := B9.cell 1
            have z2 := B9.cell 2
            have z3 := B9.cell 3
            have z4 := B9.cell 4
            have z5 := B9.cell 5
            have z6 := B9.cell 6
            have z7 := B9.cell 7
            have z8 := B9.cell 8
            have z9 := B9.cell 9
            have z10 := B9.cell 10
            have z11 := B9.cell 11
            have z12 := B9.cell 12
            have z13 := B9.cell 13
            have z14 := B9.cell 14
            have z15 := B9.cell 15
            simp at z0 z1 z2 z3 z4 z5 z6 z7 z8 z9 z10 z11 z12 z13 z14 z15
            have j0 := P9.cell 0
            have j1 := P9.cell 1
            simp [proverA] at j0 j1
            have y0 := Y9.cell 0
            have y1 := Y9.cell 1
            simp at y0 y1
            clear HA hww hW9 Y9 hb9 B9 P9 R9 hg9 hB09 B8 P8 R8 hg8 hB08 hbr
            generalize hap : apartB s (wx, wy) lo hi = ap at HA2 HC
            have HAP := Lib.hid hap
            clear hap
            go_upto_region 9 with fail
            rw [HW9.out]
            clear HW9
            replace z0 := fun x : Ext W9 => keepc x.bel z0
            replace z1 := fun x : Ext W9 => keepc x.bel z1
            replace z2 := fun x : Ext W9 => keepc x.bel z2
            replace z3 := fun x : Ext W9 => keepc x.bel z3
            replace z4 := fun x : Ext W9 => keepc x.bel z4
            replace z5 := fun x : Ext W9 => keepc x.bel z5
            replace z6 := fun x : Ext W9 => keepc x.bel z6
            replace z7 := fun x : Ext W9 => keepc x.bel z7
            replace z8 := fun x : Ext W9 => keepc x.bel z8
            replace z9 := fun x : Ext W9 => keepc x.bel z9
            replace z10 := fun x : Ext W9 => keepc x.bel z10
            replace z11 := fun x : Ext W9 => keepc x.bel z11
            replace z12 := fun x : Ext W9 => keepc x.bel z12
            replace z13 := fun x : Ext W9 => keepc x.bel z13
            replace z14 := fun x : Ext W9 => keepc x.bel z14
            replace z15 := fun x : Ext W9 => keepc x.bel z15
            replace j0 := fun x : Ext W9 => keepc x.bel j0
            replace j1 := fun x : Ext W9 => keepc x.bel j1
            replace y0 := fun x : Ext W9 => keepc x.bel y0
            replace y1 := fun x : Ext W9 => keepc x.bel y1
            refine wp_region_ext (by kernel_rfl) (by kernel_rfl) ?_
            repeat (go_big_quiet_step (fail))
            go_big_quiet_step ((go_at_call 80; exact ext_of (HA2.out _)))
            repeat (go_big_quiet_step (fail))
            refine wpQuiet_nil ?_
            rintro _ ⟨y, rfl⟩
            clear z0 z1 z2 z3 z4 z5 z6 z7 z8 z9 z10 z11 z12 z13 z14 z15 j0 j1 y0 y1 HA2
            have hb10 := y.bel
            generalize y.w = W10 at hb10 ⊢
            obtain ⟨hg9, R9, P9, Y9, hb9⟩ := HR.out
            have hg10 := grow_trans hg9 (grow_below hb10)
            have R10 := R9.keep hb10
            have P10 := P9.keep hb10
            have Y10 := Y9.keep hb10
            have hb1 := hb9.trans (hb10.mono hb9.size)
            have hs10 := hb10.size
            clear hg9 R9 P9 Y9 hb9 hb10 HR
            cases ap
            · clear HC Y10 R10 P10 hg10
              go_wp2_with fail
              go_roundw
              case rel =>
                refine ⟨⟨k + 1, rfl, by omega, by omega, fun j hj => ?_⟩, hbr2.trans (hb1.mono hbr2.size)⟩
                rcases Nat.lt_or_ge j k.toNat with h | h
                · exact HN.out.1 j (by omega)
                · obtain rfl : j = k.toNat := by omega
                  rw [HN.out.2]
                  exact HAP.out
              case measure => simp [intOf]; omega
            · have HG := Lib.hid (And.intro hg10 P10)
              have r0 := R10.cell 0
              have r1 := R10.cell 1
              have r2 := R10.cell 2
              have r3 := R10.cell 3
              have r4 := R10.cell 4
              have r5 := R10.cell 5
              have rf0 := R10.fz 0
              have rf1 := R10.fz 1
              have rf2 := R10.fz 2
              have rf3 := R10.fz 3
              have rf4 := R10.fz 4
              have rf5 := R10.fz 5
              have rl := R10.lt
              simp at r0 r1 r2 r3 r4 r5
              have y0 := Y10.cell 0
              have y1 := Y10.cell 1
              simp at y0 y1
              clear hg10 P10 R10 Y10 hb1
              have HC2 := Lib.hid (HC.out rfl)
              clear HC
              go_wp2_with fail
              refine bodyPost_ret (v := .tuple #[.agg #[.int .i64 2, .int .i64 0, .int .i64 0, .int .i64 wx, .int .i64 wy, .slice none 0 0], .bool true]) (by simp [results, Try.results103, go_sem, r0, r1, r2, r3, r4, r5]) rfl ?_
              exact grow_leaf (grow_set6 HG.out.1 (by omega)) (far6 HG.out.2 (by omega)) HV.out HC2.out
          · have a0 : apartB s (1, 0) lo hi = false := hno 0 (by omega)
            have a1 : apartB s (-1, 0) lo hi = false := hno 1 (by omega)
            have a2 : apartB s (0, 1) lo hi = false := hno 2 (by omega)
            have a3 : apartB s (0, -1) lo hi = false := hno 3 (by omega)
            have HAA := Lib.hid (And.intro a0 (And.intro a1 (And.intro a2 a3)))
            clear a0 a1 a2 a3 hno
            obtain rfl : k = 4 := by omega
            clear hk0 hk4 hlt
            have HG8 := Lib.hid (And.intro hg8 (And.intro R8 (And.intro P8 (And.intro B8 hB08))))
            have H127' := H127.out
            rw [HBE.out] at H127' B8
            have H127b := Lib.hid H127'
            have z0 := B8.cell 0
            have z1 := B8.cell 1
            have z2 := B8.cell 2
            have z3 := B8.cell 3
            have z4 := B8.cell 4
            have z5 := B8.cell 5
            have z6 := B8.cell 6
            have z7 := B8.cell 7
            have z8 := B8.cell 8
            have z9 := B8.cell 9
            have z10 := B8.cell 10
            have z11 := B8.cell 11
            have z12 := B8.cell 12
            have z13 := B8.cell 13
            have z14 := B8.cell 14
            have z15 := B8.cell 15
            simp at z0 z1 z2 z3 z4 z5 z6 z7 z8 z9 z10 z11 z12 z13 z14 z15
            clear H127 H127' hg8 R8 P8 B8 hB08 hbr hbr2
            go_upto_region 13 with (go_at_call 127; refine (H127b.out _).mono ?_; rintro e w5 ⟨pn, rfl, hp8, hmx, hb5⟩)
            clear z0 z1 z2 z3 z4 z5 z6 z7 z8 z9 z10 z11 z12 z13 z14 z15 H127b
            obtain ⟨hlt, hpN⟩ := widest_ok hok HSM.out HBX.out (by have := HND.out; omega) HAA.out.1 HAA.out.2.1 HAA.out.2.2.1 HAA.out.2.2.2 hp8 hmx
            obtain ⟨hg8, R8, P8, B8, hB08⟩ := HG8.out
            have hbk := HBX.out.2.2 pn hp8
            have hsm := high_small hok hp8
            have z0 := B8.keep hb5 |>.cell pn
            rw [boxA_lo HBX.out.1 hp8] at z0
            have z1 := B8.keep hb5 |>.cell (8 + pn)
            rw [boxA_hi HBX.out.1 HBX.out.2.1 hp8] at z1
            have HG9 := Lib.hid (And.intro (grow_trans hg8 (grow_below hb5)) (And.intro (R8.keep hb5) (And.intro (P8.keep hb5) (And.intro (B8.keep hb5) (hB08.trans (hb5.mono hB08.size))))))
            clear hg8 R8 P8 B8 hB08 HG8 hmx HAA HND hb5
            generalize hlp : lo.getD pn 0 = lp at *
            generalize hhp : hi.getD pn 0 = hp' at *
            have HLP := Lib.hid (And.intro hlp (And.intro hhp (And.intro hlt (And.intro hbk hsm))))
            have hws := IntWalk.i64_in (lp + hp') (by omega)
            have hp8I : (pn : Int) < 8 := by omega
            have hmid : (lp + hp').tdiv 2 = (lp + hp') / 2 := Int.tdiv_eq_ediv_of_nonneg (by omega)
            have hwm := IntWalk.i64_in ((lp + hp') / 2) (by omega)
            clear hlp hhp hlt hbk hsm
            replace z0 := fun x : Ext w5 => keepc x.bel z0
            replace z1 := fun x : Ext w5 => keepc x.bel z1
            refine wp_region_ext (by kernel_rfl) (by kernel_rfl) ?_
            repeat (go_big_quiet_step (fail))
            refine wpQuiet_nil ?_
            rintro _ ⟨y, rfl⟩
            clear z0 z1
            have hb6 := y.bel
            generalize y.w = w6 at hb6 ⊢
            go_upto_region 14 with fail
            obtain ⟨hg8, R8, P8, B8, hB08⟩ := HG9.out
            have hg9 := grow_trans hg8 (grow_below hb6)
            have R9 := R8.keep hb6
            have P9 := P8.keep hb6
            have B9 := B8.keep hb6
            have hB09 := hB08.trans (hb6.mono hB08.size)
            have hs9 := hg9.size
            have hr9 := R9.lt
            obtain ⟨e1, e2, hlt, hbk, hsm⟩ := HLP.out
            rename_i K hK
            refine greg14_any lo hi HBX.out.1 HBX.out.2.1 Pb (w.heap.size + 1) w.heap.size pn ((lp + hp') / 2) w6 B9 _ (fun _ _ d _ _ h => by cases d <;> exact h) _ _ _ _ _ _ _ _ _ _ _ _ _ _ _ _ _ _ _ _ _ _ _ _ _ _ _ _ _ _ _ _ _ _ _ _ _ _ _ _ _ _ _ _ _ _ _ _ _ _ _ _ _ _ _ _ _ _ _ _ _ _ _ _ _ _ _ _ _ _ _ _ _ _ _ _ _ _ _ _ _ _ _ _ _ _ _ _ _ _ _ ?_
            intro q10 q11 w8 h1011 hq10 hq11 hb8 Ba Bb c63 c64
            have ihm : ∀ k, k ≤ m → GrowAt g Pb s sum w0 k := fun k hk => HIH.out k (by omega) (by have := HM.out; omega)
            exact hK _ _ (grow_tail g Pb s sum w0 hok m ihm hPb0 lo hi pn q10 q11 (w.heap.size + 1) ((lp + hp') / 2) w w8 hp8 hpN HBX.out (by rw [e1]; omega) (by rw [e2]; omega) (hB09.trans (hb8.mono hB09.size)) (grow_trans hg9 (grow_below hb8)) hPw (P9.keep hb8) (R9.keep hb8) (by omega) Ba Bb h1011 (by omega) (by omega) (by omega) (by omega) _ _ _ _ _ _ _ _ _ _ _ _ _ _ _ _ _ _ _ _ _ _ _ _ _ _ _ _ _ _ _ _ _ _ _ _ _ _ _ _ _ _ _ _ _ _ _ _ _ _ _ _ _ _ _ _ _ _ _ _ _ _ _ _ _ _ _ _ _ _ _ _ _ _ _ _ _ _ _ _ _ _ _ _ _ _ _ _ _ _)

end Go.Proofs.Ythmngnfdfelkeaa
