/-
  What is proved: TruthAdds answers true.
-/
import Derived.Test.YthmngnfdfelkeaaAwakeMg
import Derived.Test.YthmngnfdfelkeaaMg22
import Derived.BigRegion
import Derived.Maps.AppendAt
namespace Go.Proofs.Ythmngnfdfelkeaa
open Go.RowKit
attribute [local go_sem ↓] max_int min_int

theorem neq43 (W : World) (a b c d : Int) : (binOp .neq 43 (.agg #[.int .i64 a, .int .i64 b]) (.agg #[.int .i64 c, .int .i64 d])).run Try.prog W = .ok (.bool !(a == c && b == d)) W := by
  simp [go_sem, Try.underlying43]
  by_cases h1 : a = c <;> by_cases h2 : b = d <;> simp [*]
/-- append under a name that the walk does not open. -/
def appendHid (ts : Array TypeId) (ty : TypeId) (args : Array Value) : Sem Value := Builtin.append_ ts ty args
theorem append_hid (ts : Array TypeId) (ty : TypeId) (args : Array Value) : Builtin.append_ ts ty args = appendHid ts ty args := rfl
attribute [local go_sem ↓] append_hid

def setZ (z : Loc) (A : Option Addr) (c : Nat) : Loc := { z with a2 := A, c2 := c }
theorem momentR_cases (s : Stn) : ((momentR s).2 == 0) = false ∨ (s.ok = true ∧ momentR s = ((momX s s.f.kinds.length, momY s s.f.kinds.length), 0)) := by
  unfold momentR
  cases h : s.ok <;> simp
def stnA (s : Stn) (z : Loc) (v : Value) : Array Value := #[.int .i64 s.f.eye, .int .i64 s.f.rings, .int .i64 s.f.sec, .slice z.a1 s.f.kinds.length z.c1, v, .slice z.a3 s.compass.length z.c3, .slice z.a4 s.pockets.length z.c4, .int .i64 s.tol]
/-- Two slices do not lie in one block. -/
def apartV (u v : Value) : Prop := u.ownBlock = none ∨ u.ownBlock ≠ v.ownBlock
theorem apartV.symm {u v : Value} (h : apartV u v) : apartV v u := by
  unfold apartV at *
  cases hv : v.ownBlock
  · exact .inl rfl
  · refine .inr fun e => ?_
    rcases h with h | h
    · rw [h] at e; cases e
    · exact h (e.symm.trans hv.symm)
theorem apartV.grow {u u' v : Value} (h : apartV u v) {H : Nat} (hg : u'.ownBlock = u.ownBlock ∨ u'.ownBlock = some H) (hl : ∀ b, v.ownBlock = some b → b < H) : apartV u' v := by
  unfold apartV at *
  rcases hg with hg | hg
  · rw [hg]; exact h
  · refine .inr fun e => ?_
    have := hl H (e.symm.trans hg)
    omega
theorem zip_next (a b : List Int) (k : Nat) (x y : Int) (h : zipH a b (k + 1) = zipH a b k ++ [x + y]) : intCells (zipH a b k) ++ [.int .i64 (x + y)] = intCells (zipH a b (k + 1)) := by
  rw [h]; simp [intCells]
theorem rep_next (k : Nat) (x : Int) : intCells (List.replicate k x) ++ [.int .i64 x] = intCells (List.replicate (k + 1) x) := by
  rw [List.replicate_succ']; simp [intCells]
theorem keepS {w : World} {a b : Addr} {v u : Value} (hne : a.block ≠ b.block) (h : w.cell? a = some v) : (w.setCell b u).cell? a = some v :=
  (World.cell?_of_block (Below.heap_setCell w b u a.block hne)).trans h
theorem put_heights (s : Stn) (z : Loc) (l : List Int) (A : Option Addr) (c : Nat) : (s.cells z).setIfInBounds 4 (.slice A l.length c) = (withH s l).cells (setZ z A c) := rfl
theorem StAt.withH {w : World} {s : Stn} {z : Loc} (h : StAt w s z) {l : List Int} {A : Option Addr} {c : Nat} (hr : RowAt w A (intCells l)) (hn : l.length ≤ 9223372036854775807) : StAt w (withH s l) (setZ z A c) :=
  ⟨h.kinds, hr, h.compass, h.pockets, h.n1, hn, h.n3, h.n4⟩

set_option maxRecDepth 100000 in
set_option maxHeartbeats 8000000 in
theorem adds_law (s : Stn) (z : Loc) (A : Option Addr) (c : Nat) (more : List Int) (height : Int) (w : World) (hs : StAt w s z) (hm : RowAt w A (intCells more)) (hn : more.length ≤ 9223372036854775807) :
    Calls Try.prog 5 #[s.val z, .slice A more.length c, .int .i64 height] w fun e w' => e = .returned (.bool true) ∧ Below w.heap.size w w' := by
  obtain ⟨j0, hj0, jz0, jz1, jz2⟩ := info_parts intInfo
  have T0 : Bk (w.alloc (.cells (s.cells z) 28)) w.heap.size 28 (s.cells z) := bk_last rfl
  have hB0 : Below w.heap.size w (w.alloc (.cells (s.cells z) 28)) := (Below.refl _ _).alloc (Nat.le_refl _) _
  have HSm : Hid (∀ W, StAt W s z → Calls Try.prog 16 #[.agg (s.cells z)] W fun e w' => e = .returned (.bool (smallB s)) ∧ Below W.heap.size W w') := fun W h => small_any s z W h
  have HMo : Hid (∀ (t : Stn) (y : Loc) W, StAt W t y → Calls Try.prog 28 #[.agg (t.cells y)] W fun e w' => e = .returned (pointV (momentR t)) ∧ Below W.heap.size W w') := fun t y W h => moment_any t y W h
  unfold pointV at HMo
  unfold Stn.val
  go_enter Try.func5, Try.ntmps5
  go_wp2_with fail
  generalize w.alloc (.cells _ 28) = V at *
  refine (awake_any _).mono ?_
  rintro e w1 ⟨rfl, hb1⟩
  have T1 := T0.keep hb1
  have hB1 := hB0.trans (hb1.mono hB0.size)
  clear T0 hB0 hb1
  have HSt := Lib.hid (stn_cell0 T1)
  obtain ⟨x0, x1, x2, x3, x4, x5, x6, x7⟩ := HSt.out
  unfold Stn.cells at HSm
  go_wp2_with fail
  refine (HSm.out _ (hs.below hB1)).mono ?_
  rintro e w2 ⟨rfl, hb2⟩
  have T2 := T1.keep hb2
  have hB2 := hB1.trans (hb2.mono hB1.size)
  clear T1 hB1 hb2 x0 x1 x2 x3 x4 x5 x6 x7 HSt HSm
  obtain ⟨x0, x1, x2, x3, x4, x5, x6, x7⟩ := stn_cell0 T2
  by_cases h0 : smallB s = true
  · by_cases m1 : (more.length : Int) ≤ 300
    · by_cases m2 : -100000 ≤ height
      · by_cases m3 : height ≤ 100000
        · rw [h0]
          go_wp2_with fail
          refine (HMo.out s z w2 (hs.below hB2)).mono ?_
          rintro e w3 ⟨rfl, hb3⟩
          have T3 := T2.keep hb3
          have hB3 := hB2.trans (hb3.mono hB2.size)
          clear T2 x0 x1 x2 x3 x4 x5 x6 x7
          obtain ⟨x0, x1, x2, x3, x4, x5, x6, x7⟩ := stn_cell0 T3
          have xl := T3.lt
          go_wp2_with fail
          refine (HMo.out (withH s more) (setZ z A c) _ (((hs.below hB3).withH (hm.below hB3) hn).alloc _ |>.alloc _)).mono ?_
          rintro e w4 ⟨rfl, hb4⟩
          have P1 : Bk w4 w3.heap.size 43 #[.int .i64 (momentR s).1.1, .int .i64 (momentR s).1.2] := ((bk_last rfl).alloc _).keep hb4
          have T4 := ((T3.alloc _).alloc _).keep hb4
          have hB4 : Below w.heap.size w w4 := ((hB3.alloc hB3.size _).alloc (by have := hB3.size; simp; omega) _).trans (hb4.mono (by have := hB3.size; simp; omega))
          have hz3 : w.heap.size ≤ w3.heap.size := hB3.size
          clear T3 hb4 x0 x1 x2 x3 x4 x5 x6 x7 hB3 xl
          rcases momentR_cases s with e1 | ⟨hok, e1⟩
          · generalize momentR s = r at *
            go_wp2_with fail
            go_ret
            exact ⟨rfl, hB4.alloc hB4.size _⟩
          · rcases momentR_cases (withH s more) with e2 | ⟨hok2, e2⟩
            · rw [e1] at P1 ⊢
              generalize momentR (withH s more) = r at *
              go_wp2_with fail
              go_ret
              exact ⟨rfl, hB4.alloc hB4.size _⟩
            · have hmb := mom_bound hok _ (Nat.le_refl _)
              have hmb2 := mom_bound hok2 _ (Nat.le_refl _)
              have hl1 := (stn_ok hok).2.1
              have hl2 : more.length = s.f.kinds.length := (stn_ok hok2).2.1
              have hbs := (stn_ok hok).2.2.1
              have hbs2 : ∀ x ∈ more, -100000 ≤ x ∧ x ≤ 100000 := (stn_ok hok2).2.2.1
              rw [e1] at P1 ⊢
              rw [e2]
              simp only at P1 ⊢
              have HXY := Lib.hid (mom_add s more s.f.kinds.length s.f.kinds.length (Nat.le_refl _))
              have e3 : (withH s more).f.kinds.length = s.f.kinds.length := rfl
              rw [e3] at hmb2 ⊢
              generalize hmx : momX s s.f.kinds.length = mx at *
              generalize hmy : momY s s.f.kinds.length = my at *
              generalize hnx : momX (withH s more) s.f.kinds.length = nx at *
              generalize hny : momY (withH s more) s.f.kinds.length = ny at *
              have HOK := Lib.hid hok
              clear e1 e2 e3 hmx hmy hnx hny hok hok2
              obtain ⟨x0, x1, x2, x3, x4, x5, x6, x7⟩ := stn_cell0 T4
              have xl := T4.lt
              have pl := P1.lt
              go_upto_region 15 with fail
              have hq : w4.heap.size = w4.heap.size := rfl
              obtain ⟨U, hU⟩ : ∃ U, ((w4.alloc (.cells #[.int .i64 nx, .int .i64 ny] 43)).alloc (.cells (stnA s z (.slice none 0 0)) 28)).alloc (.cells (stnA s z (.slice none 0 0)) 28) = U := ⟨_, rfl⟩
              have hUz : U.heap.size = w4.heap.size + 3 := by rw [← hU]; simp
              have P2 : Bk U w4.heap.size 43 #[.int .i64 nx, .int .i64 ny] := by rw [← hU]; exact ((bk_last rfl).alloc _).alloc _
              have B1 : Bk U (w4.heap.size + 1) 28 (stnA s z (.slice none 0 0)) := by rw [← hU]; exact (bk_last (by simp)).alloc _
              have B2 : Bk U (w4.heap.size + 1 + 1) 28 (stnA s z (.slice none 0 0)) := by rw [← hU]; exact bk_last (by simp)
              have hBU : Below w4.heap.size w4 U := by
                rw [← hU]
                exact (((Below.refl _ _).alloc (Nat.le_refl _) _).alloc (by simp) _).alloc (by simp; omega) _
              unfold stnA at hU
              rw [hU]
              clear hU hq x0 x1 x2 x3 x4 x5 x6 x7
              generalize hqq : w4.heap.size = q at *
              go_loopw [15] (fun i wr => ∃ k : Nat, k ≤ more.length ∧ i = .int .i64 k ∧ ∃ (A1 A2 : Option Addr) (c1 c2 : Nat), wr.ownsRow U.heap.size 3 1 (.slice A1 k c1) k (intCells (zipH s.heights more k)) ∧ wr.ownsRow U.heap.size 3 1 (.slice A2 k c2) k (intCells (List.replicate k height)) ∧ apartV (.slice A1 k c1) (.slice A2 k c2) ∧ Bk wr (q + 1) 28 (stnA s z (.slice A1 k c1)) ∧ Bk wr (q + 1 + 1) 28 (stnA s z (.slice A2 k c2)) ∧ Bk wr q 43 #[.int .i64 nx, .int .i64 ny] ∧ Below q w4 wr ∧ U.heap.size ≤ wr.heap.size) (fun i _ => more.length - (intOf i).toNat)
              case atStart => exact ⟨0, Nat.zero_le _, rfl, none, none, 0, 0, World.ownsRow_nil _ _ _ _, World.ownsRow_nil _ _ _ _, .inl rfl, B1, B2, P2, hBU, Nat.le_refl _⟩
              case round =>
                clear B1 B2 P2 hBU
                obtain ⟨k, hk, rfl, A1, A2, c1, c2, ho1, ho2, hap, B1, B2, P2, hB, hUw⟩ := hrel
                by_cases hlt : k < more.length
                · have hI : (k : Int) < more.length := by omega
                  have T5 := T4.below hB (by omega)
                  obtain ⟨_, _, _, _, x4, _, _, _⟩ := stn_cell0 T5
                  obtain ⟨b5, o5, ha5, hb5, hc5⟩ := hs.heights.intD (by omega)
                  obtain ⟨b6, o6, ha6, hb6, hc6⟩ := hm.intD (by omega)
                  have hBw : Below w.heap.size w wr := hB4.trans (hB.mono (by omega))
                  have d5 := keepc hBw (hc5 k (by omega))
                  have d6 := keepc hBw (hc6 k hlt)
                  have y5 := hbs _ (getD_mem 0 (show k < s.heights.length by omega))
                  have y6 := hbs2 _ (getD_mem 0 hlt)
                  have hkh : (k : Int) < s.heights.length := by omega
                  subst ha6
                  rw [ha5] at x4
                  have hZ := Lib.hid (zipH_succ s.heights more k)
                  clear hc5 hc6 ha5
                  generalize s.heights.getD k 0 = x at *
                  generalize more.getD k 0 = y at *
                  have b14 := B1.cell 4
                  rw [show (stnA s z (.slice A1 k c1))[4]? = some (.slice A1 k c1) from rfl] at b14
                  have E1 : k + 1 ≤ maxLen := by unfold maxLen; omega
                  have E2 : (k + 1) * 8 ≤ 140737488355328 := by omega
                  have l1 := B1.lt
                  have l2 := B2.lt
                  have l3 := P2.lt
                  have hne : ∀ b, b < U.heap.size → some b ≠ (Value.slice A1 k c1).ownBlock := fun b hb => own_ne ho1 hb
                  have hlt2 : ∀ b, (Value.slice A2 k c2).ownBlock = some b → b < wr.heap.size := fun b hb => (ho2.lt b hb).2
                  have hne1 := hne (q + 1) (by omega)
                  have hne2 := hne w.heap.size (by omega)
                  have hne3 := hne b5 (by omega)
                  have hne4 := hne b6 (by omega)
                  have hwr := IntWalk.i64_in (x + y) (by omega)
                  go_upto_region 17 with fail
                  have hBa : Below wr.heap.size wr ((wr.alloc (.cells #[.int .i64 (x + y)] 3)).drew) := ((Below.refl wr.heap.size wr).alloc (Nat.le_refl _) (.cells #[.int .i64 (x + y)] 3)).drew
                  obtain ⟨v6, w6, hr, hown6, hgrow, _, hat⟩ := run_append_own_at (P := Try.prog) ((wr.alloc (.cells #[.int .i64 (x + y)] 3)).drew) U.heap.size 22 22 3 j0 _ 1 8 Try.underlying22 hj0 jz0 jz1 jz2 rfl (by omega) (.slice A1 k c1) k (intCells (zipH s.heights more k)) (ho1.alloc _).drew ⟨wr.heap.size, 0, none⟩ 1 1 [.int .i64 (x + y)] (by rfl) (cell_one_new _ _ _) (by simp [Value.oneCell']) E1 E2 (by simp; omega)
                  obtain ⟨A6, c6, rfl, _, _, _⟩ := own_form hown6
                  replace hr : (appendHid #[22, 22] 22 #[.slice A1 k c1, .slice (some ⟨wr.heap.size, 0, none⟩) 1 1]).run Try.prog ((wr.alloc (.cells #[.int .i64 (x + y)] 3)).drew) = .ok (.slice A6 (k + 1) c6) w6 := hr
                  have own26 := ((ho2.alloc (.cells #[.int .i64 (x + y)] 3)).drew).kept hgrow hap.symm
                  have B16 := (B1.keep hBa).grown hgrow hne1
                  have B26 := (B2.keep hBa).grown hgrow (hne (q + 1 + 1) (by omega))
                  have P26 := (P2.keep hBa).grown hgrow (hne q (by omega))
                  have hB6 : Below q w4 w6 := (hB.trans (hBa.mono (by omega))).grown hgrow (by have := hBa.size; omega) (fun r e => by have := (ho1.lt r e).1; omega)
                  have c14 := B16.cell 4
                  have f14 := B16.fz 4
                  have l14 := B16.lt
                  rw [show (stnA s z (.slice A1 k c1))[4]? = some (.slice A1 k c1) from rfl] at c14
                  go_region
                  have hUq : U.heap.size = q + 3 := by omega
                  have ho17 := own_far (a := ⟨q + 1, 4, none⟩) hown6 (fun e => by have h5 := (hown6.lt _ e).1; simp only at h5; omega) (.slice A6 (k + 1) c6)
                  have ho27 := own_far (a := ⟨q + 1, 4, none⟩) own26 (fun e => by have h5 := (own26.lt _ e).1; simp only at h5; omega) (.slice A6 (k + 1) c6)
                  have B17 : Bk (w6.setCell ⟨q + 1, 4, none⟩ (.slice A6 (k + 1) c6)) (q + 1) 28 (stnA s z (.slice A6 (k + 1) c6)) := B16.put 4 (.slice A6 (k + 1) c6)
                  have B27 := B26.far (p := ⟨q + 1, 4, none⟩) (by simp) (.slice A6 (k + 1) c6)
                  have P27 := P26.far (p := ⟨q + 1, 4, none⟩) (by simp) (.slice A6 (k + 1) c6)
                  have hB7 := hB6.setCell (p := ⟨q + 1, 4, none⟩) (by simp) (.slice A6 (k + 1) c6)
                  have hap7 : apartV (.slice A6 (k + 1) c6) (.slice A2 k c2) := hap.grow hat (fun b hb => by have := hlt2 b hb; simp; omega)
                  rw [zip_next _ _ _ _ _ hZ.out] at ho17
                  have hz7 : U.heap.size ≤ (w6.setCell ⟨q + 1, 4, none⟩ (.slice A6 (k + 1) c6)).heap.size := by have := hB6.size; have := hgrow.size; simp at this ⊢; omega
                  clear ho1 ho2 hap B1 B2 P2 hB hown6 own26 B16 B26 P26 hB6 hat hgrow hr c14 f14 l14 b14 d5 d6 hBw hBa hne hlt2 hne1 hne2 hne3 hne4 T5 x4 hwr hZ l1 l2 l3
                  generalize w6.setCell ⟨q + 1, 4, none⟩ (.slice A6 (k + 1) c6) = w7 at *
                  go_upto_region 18 with fail
                  have b24 := B27.cell 4
                  rw [show (stnA s z (.slice A2 k c2))[4]? = some (.slice A2 k c2) from rfl] at b24
                  have b24l := B27.lt
                  have hne : ∀ b, b < U.heap.size → some b ≠ (Value.slice A2 k c2).ownBlock := fun b hb => own_ne ho27 hb
                  have hBa : Below w7.heap.size w7 (w7.alloc (.cells #[.int .i64 height] 3)) := (Below.refl w7.heap.size w7).alloc (Nat.le_refl _) (.cells #[.int .i64 height] 3)
                  obtain ⟨v8, w8, hr, hown8, hgrow, _, hat⟩ := run_append_own_at (P := Try.prog) (w7.alloc (.cells #[.int .i64 height] 3)) U.heap.size 22 22 3 j0 _ 1 8 Try.underlying22 hj0 jz0 jz1 jz2 rfl (by omega) (.slice A2 k c2) k (intCells (List.replicate k height)) (ho27.alloc _) ⟨w7.heap.size, 0, none⟩ 1 1 [.int .i64 height] (by rfl) (cell_one_new _ _ _) (by simp [Value.oneCell']) E1 E2 (by simp; omega)
                  obtain ⟨A8, c8, rfl, _, _, _⟩ := own_form hown8
                  replace hr : (appendHid #[22, 22] 22 #[.slice A2 k c2, .slice (some ⟨w7.heap.size, 0, none⟩) 1 1]).run Try.prog (w7.alloc (.cells #[.int .i64 height] 3)) = .ok (.slice A8 (k + 1) c8) w8 := hr
                  have hl7 : ∀ b, (Value.slice A6 (k + 1) c6).ownBlock = some b → b < w7.heap.size := fun b hb => (ho17.lt b hb).2
                  have own18 := (ho17.alloc (.cells #[.int .i64 height] 3)).kept hgrow hap7
                  have B18 := (B17.keep hBa).grown hgrow (hne (q + 1) (by omega))
                  have B28 := (B27.keep hBa).grown hgrow (hne (q + 1 + 1) (by omega))
                  have P28 := (P27.keep hBa).grown hgrow (hne q (by omega))
                  have hB8 : Below q w4 w8 := (hB7.trans (hBa.mono (by omega))).grown hgrow (by have := hBa.size; omega) (fun r e => by have := (ho27.lt r e).1; omega)
                  have c24 := B28.cell 4
                  have f24 := B28.fz 4
                  have l24 := B28.lt
                  rw [show (stnA s z (.slice A2 k c2))[4]? = some (.slice A2 k c2) from rfl] at c24
                  have hap8 : apartV (.slice A6 (k + 1) c6) (.slice A8 (k + 1) c8) := (hap7.symm.grow hat (fun b hb => by have := hl7 b hb; simp; omega)).symm
                  have hz8 : U.heap.size ≤ w8.heap.size := by have := hgrow.size; simp at this; omega
                  rw [rep_next] at hown8
                  have HO := Lib.hid (And.intro hown8 (And.intro own18 (And.intro hap8 (And.intro B18 (And.intro B28 (And.intro P28 hB8))))))
                  clear hown8 own18 hap8 B18 B28 P28 hB8 hap7 ho17 ho27 B17 B27 P27 hB7 hat hgrow hne hBa hl7
                  go_wp2_with fail
                  obtain ⟨hown8, own18, hap8, B18, B28, P28, hB8⟩ := HO.out
                  go_roundw
                  case rel => exact ⟨k + 1, by omega, by go_num, A6, A8, c6, c8, own_far (a := ⟨q + 1 + 1, 4, none⟩) own18 (fun e => by have h5 := (own18.lt _ e).1; simp only at h5; omega) _, own_far (a := ⟨q + 1 + 1, 4, none⟩) hown8 (fun e => by have h5 := (hown8.lt _ e).1; simp only at h5; omega) _, hap8, B18.far (by simp) _, B28.put 4 (.slice A8 (k + 1) c8), P28.far (by simp; omega) _, hB8.setCell (by simp; omega) _, by simpa using hz8⟩
                  case measure => simp [intOf]; omega
                · obtain rfl : k = more.length := by omega
                  obtain ⟨w9, rfl⟩ : ∃ x, x = wr := ⟨wr, rfl⟩
                  have hBw : Below w.heap.size w w9 := hB4.trans (hB.mono (by omega))
                  have T5 := T4.below hB (by omega)
                  have P15 := P1.below hB (by omega)
                  obtain ⟨Z, hZ, hZl⟩ : ∃ Z, zipH s.heights more more.length = Z ∧ Z.length = more.length := ⟨_, rfl, zipH_len _ _ _⟩
                  obtain ⟨Y, hY, hYl⟩ : ∃ Y, List.replicate more.length height = Y ∧ Y.length = more.length := ⟨_, rfl, by simp⟩
                  have hrZ : RowAt w9 A1 (intCells Z) := by
                    obtain ⟨A, c', e1, _, h, _⟩ := own_form ho1
                    injection e1 with e1 _
                    rw [e1, ← hZ]; exact h
                  have hrY : RowAt w9 A2 (intCells Y) := by
                    obtain ⟨A, c', e1, _, h, _⟩ := own_form ho2
                    injection e1 with e1 _
                    rw [e1, ← hY]; exact h
                  have B1' : Bk w9 (q + 1) 28 ((withH s Z).cells (setZ z A1 c1)) := by rw [← hZl] at B1; exact B1
                  have B2' : Bk w9 (q + 1 + 1) 28 ((withH s Y).cells (setZ z A2 c2)) := by rw [← hYl] at B2; exact B2
                  have hsZ : StAt w9 (withH s Z) (setZ z A1 c1) := (hs.below hBw).withH hrZ (by omega)
                  have hsY : StAt w9 (withH s Y) (setZ z A2 c2) := (hs.below hBw).withH hrY (by omega)
                  have hokY : (withH s Y).ok = true := withH_ok HOK.out (by omega) (by rw [← hY]; simp [flatB, inB]; omega)
                  have HFZ : Hid (sumPX s.compass s.compass.length = 0 → sumPY s.compass s.compass.length = 0 → momentR (withH s Y) = ((0, 0), 0)) := fun h1 h2 => by
                    have h3 := flat_zero (x := height) HOK.out h1 h2
                    have e3 : (withH s Y).f.kinds.length = s.f.kinds.length := rfl
                    unfold momentR
                    rw [if_pos hokY, e3, ← hY, hl2, h3.1, h3.2]
                  have HEY : Hid ((momentR (withH s Y)).2 = 0) := by
                    refine Lib.hid ?_
                    unfold momentR
                    rw [if_pos hokY]
                  have HEZ : Hid (((momentR (withH s Z)).2 == 0) = false ∨ momentR (withH s Z) = ((mx + nx, my + ny), 0)) := by
                    refine Lib.hid ?_
                    rcases momentR_cases (withH s Z) with h | ⟨_, h⟩
                    · exact .inl h
                    · refine .inr ?_
                      have e3 : (withH s Z).f.kinds.length = s.f.kinds.length := rfl
                      rw [h, e3, ← hZ, hl2, HXY.out.1, HXY.out.2]
                  clear B1 B2 ho1 ho2 hap hrZ hrY hB hZ hY
                  obtain ⟨x0, x1, x2, x3, x4, x5, x6, x7⟩ := stn_cell0 B1'
                  go_wp2_with fail
                  refine (HMo.out _ _ _ hsZ).mono ?_
                  rintro e w10 ⟨rfl, hb10⟩
                  have T10 := T5.keep hb10
                  have P110 := P15.keep hb10
                  have P210 := P2.keep hb10
                  have B210 := B2'.keep hb10
                  have hsY10 := hsY.below hb10
                  have hB10 := hBw.trans (hb10.mono hBw.size)
                  clear T5 P15 P2 B1' B2' hsY hBw hb10 x0 x1 x2 x3 x4 x5 x6 x7 hsZ HXY T4 P1 hB4
                  generalize momentR (withH s Z) = r at *
                  obtain ⟨⟨zx, zy⟩, E8⟩ := r
                  have p1 := P110.cell 0
                  have p2 := P110.cell 1
                  have p3 := P210.cell 0
                  have p4 := P210.cell 1
                  simp at p1 p2 p3 p4
                  have p5 := P110.lt
                  have p6 := P210.lt
                  have hw1 := IntWalk.i64_in (mx + nx) (by omega)
                  have hw2 := IntWalk.i64_in (my + ny) (by omega)
                  have hcomp := stn_ok HOK.out
                  have HCP := Lib.hid hcomp.2.2.2.2.2.2.2.1
                  have hcl : s.compass.length ≤ 96 := by have := (fac_ok hcomp.1).2.2.2.2.2.1; have := hcomp.2.2.2.1; omega
                  clear hcomp
                  obtain ⟨W, hW⟩ : ∃ W, (w10.alloc (.cells #[.int .i64 zx, .int .i64 zy] 43)).alloc (.cells #[.int .i64 0, .int .i64 0] 43) = W := ⟨_, rfl⟩
                  have hBW : Below w10.heap.size w10 W := by rw [← hW]; exact ((Below.refl _ _).alloc (Nat.le_refl _) _).alloc (by simp) _
                  have C : Bk W (w10.heap.size + 1) 43 #[.int .i64 0, .int .i64 0] := by rw [← hW]; exact bk_last (by simp)
                  have TW := T10.keep hBW
                  have BW := B210.keep hBW
                  have hsW := hsY10.below hBW
                  have hB11 := hB10.trans (hBW.mono hB10.size)
                  have HW := Lib.hid hW
                  clear hW
                  rcases HEZ.out with hE | hE
                  all_goals (first | (simp only [Prod.mk.injEq] at hE; obtain ⟨⟨rfl, rfl⟩, rfl⟩ := hE) | (simp only at hE))
                  all_goals
                    clear HEZ
                    go_upto_region 24 with fail
                    rw [HW.out]
                    have tl := T10.lt
                    have bl := B210.lt
                    clear HW B210 T10 P110 P210 p1 p2 p3 p4
                    have cl := C.lt
                    generalize hu : w10.heap.size = u at *
                    go_loopw [19] (fun i wr => ∃ k : Nat, k ≤ s.compass.length ∧ i = .int .i64 k ∧ Bk wr (u + 1) 43 #[.int .i64 (sumPX s.compass k), .int .i64 (sumPY s.compass k)] ∧ Below (u + 1) W wr) (fun i _ => s.compass.length - (intOf i).toNat)
                    case atStart => exact ⟨0, Nat.zero_le _, rfl, C, Below.refl _ _⟩
                    case round =>
                      clear C
                      obtain ⟨k, hk, rfl, C, hB⟩ := hrel
                      have T12 := TW.below hB (by omega)
                      have hBw := hB11.trans (hB.mono (by omega))
                      by_cases hlt : k < s.compass.length
                      · have hI : (k : Int) < s.compass.length := by omega
                        obtain ⟨_, _, _, _, _, x5, _, _⟩ := stn_cell0 T12
                        obtain ⟨b, off, hA, hb, hc⟩ := hs.compass.pt (by omega)
                        obtain ⟨c0, c1⟩ := hc k hlt
                        have c0' := keepc hBw c0
                        have c1' := keepc hBw c1
                        have hcb := HCP.out _ (getD_mem (0, 0) hlt)
                        have hsb := sumP_bound HCP.out k hk
                        have HNX : Hid (sumPX s.compass (k + 1) = sumPX s.compass k + (s.compass.getD k (0, 0)).1 ∧ sumPY s.compass (k + 1) = sumPY s.compass k + (s.compass.getD k (0, 0)).2) := ⟨rfl, rfl⟩
                        rw [hA] at x5
                        clear hc c0 c1 hA
                        generalize s.compass.getD k (0, 0) = d at *
                        obtain ⟨dx, dy⟩ := d
                        simp only at c0' c1' hcb HNX
                        generalize hsx : sumPX s.compass k = sx at *
                        generalize hsy : sumPY s.compass k = sy at *
                        clear hsx hsy
                        have e0 := C.cell 0
                        have e1 := C.cell 1
                        simp at e0 e1
                        have hw3 := IntWalk.i64_in (sx + dx) (by omega)
                        have hw4 := IntWalk.i64_in (sy + dy) (by omega)
                        go_upto_region 26 with fail
                        refine wp_region_extmix 19 (by kernel_rfl) (by kernel_rfl) (fun _ _ d _ _ h => by cases d <;> exact h) ?_
                        simp only [List.take_succ_cons, List.take_zero, List.drop_succ_cons, List.drop_zero]
                        have X5 := fun x : Ext wr => keepc x.bel x5
                        have C0 := fun x : Ext wr => keepc x.bel c0'
                        have C1 := fun x : Ext wr => keepc x.bel c1'
                        have E0 := fun x : Ext wr => keepc x.bel e0
                        have E1 := fun x : Ext wr => keepc x.bel e1
                        clear x5 c0' c1' e0 e1
                        repeat (go_big_quiet_step (fail))
                        refine wpQuiet_nil ?_
                        rintro _ ⟨y, rfl⟩
                        clear X5 C0 C1 E0 E1
                        have hb1 := y.bel
                        generalize y.w = w12 at hb1 ⊢
                        have C12 := C.keep hb1
                        have q0 := C12.cell 0
                        have q1 := C12.cell 1
                        have q2 := C12.fz 0
                        have q3 := C12.fz 1
                        simp at q0 q1
                        have HC2 := Lib.hid ((C12.put 0 (.int .i64 (sx + dx))).put 1 (.int .i64 (sy + dy)))
                        have HB2 := Lib.hid (((hB.trans (hb1.mono (by have := C.lt; omega))).setCell (p := ⟨u + 1, 0, none⟩) (by simp) (.int .i64 (sx + dx))).setCell (p := ⟨u + 1, 1, none⟩) (by simp) (.int .i64 (sy + dy)))
                        clear hb1 C12
                        go_wp2_with fail
                        go_roundw
                        case rel => exact ⟨k + 1, by omega, by go_num, by rw [HNX.out.1, HNX.out.2]; exact HC2.out, HB2.out⟩
                        case measure => simp [intOf]; omega
                      · obtain rfl : k = s.compass.length := by omega
                        have B12 := BW.below hB (by omega)
                        have hs12 : StAt wr (withH s Y) (setZ z A2 c2) := hsY10.below (by rw [hu]; exact hBW.trans (hB.mono (by omega)))
                        obtain ⟨x0, x1, x2, x3, x4, x5, x6, x7⟩ := stn_cell0 B12
                        have t5 := (stn_cell0 T12).2.2.2.2.2.1
                        have E43 := eq43
                        have N43 := neq43
                        have hC1 := C.lt
                        go_wp2_with fail
                        refine (HMo.out _ _ _ hs12).mono ?_
                        rintro e w13 ⟨rfl, hb13⟩
                        have C13 := C.keep hb13
                        have hB13 := hBw.trans (hb13.mono hBw.size)
                        rw [HEY.out]
                        have q0 := C13.cell 0
                        have q1 := C13.cell 1
                        have q2 := C13.lt
                        simp at q0 q1
                        clear x0 x1 x2 x3 x4 x5 x6 x7
                        by_cases hz : sumPX s.compass s.compass.length = 0 ∧ sumPY s.compass s.compass.length = 0
                        · rw [HFZ.out hz.1 hz.2]
                          rw [hz.1] at q0
                          rw [hz.2] at q1
                          clear hz
                          go_wp2_with fail
                          go_ret
                          exact ⟨rfl, hB13.alloc hB13.size _⟩
                        · have hnz : (sumPX s.compass s.compass.length == 0 && sumPY s.compass s.compass.length == 0) = false := by
                            cases h1 : (sumPX s.compass s.compass.length == 0)
                            · rfl
                            · cases h2 : (sumPY s.compass s.compass.length == 0)
                              · rfl
                              · exact absurd ⟨by simpa using h1, by simpa using h2⟩ hz
                          clear hz
                          go_wp2_with fail
                          go_ret
                          exact ⟨rfl, hB13.alloc hB13.size _⟩
        · have m3' : 100000 < height := by omega
          rw [h0]
          go_wp2_with fail
          go_ret
          exact ⟨rfl, hB2⟩
      · have m2' : height < -100000 := by omega
        rw [h0]
        go_wp2_with fail
        go_ret
        exact ⟨rfl, hB2⟩
    · have m1' : 300 < (more.length : Int) := by omega
      rw [h0]
      go_wp2_with fail
      go_ret
      exact ⟨rfl, hB2⟩
  · have h0' : smallB s = false := by simpa using h0
    rw [h0']
    go_wp2_with fail
    go_ret
    exact ⟨rfl, hB2⟩

end Go.Proofs.Ythmngnfdfelkeaa
