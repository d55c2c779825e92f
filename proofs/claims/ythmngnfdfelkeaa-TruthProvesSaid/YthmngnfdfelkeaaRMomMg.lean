/-
  What is proved: the contracts of the reference's Weight, mass and moment.
-/
import Derived.Test.YthmngnfdfelkeaaRefBMg
import Derived.Test.YthmngnfdfelkeaaOpenMg
import Derived.BigRegion
namespace Go.Proofs.Ythmngnfdfelkeaa
open Go.RowKit
attribute [local go_sem ↓] max_int min_int

set_option maxHeartbeats 2000000 in
theorem rweight_any (f : Fac) (A : Option Addr) (c : Nat) (r : Int) (w : World) (hL : RowAt w A (intCells f.kinds)) (hn : f.kinds.length ≤ 9223372036854775807) (hok : f.ok = true) (hr : inB r 0 (f.rings - 1) = true) :
    Calls Try.prog 123 #[f.val A c, .int .i64 r] w fun e w' => e = .returned (pairV (2 * (f.eye + r) + 1, 0)) ∧ Below w.heap.size w w' := by
  obtain ⟨k1, k2, k3, k4, _⟩ := fac_ok hok
  have hr' := hr
  simp only [inB, decide_eq_true_eq] at hr'
  have HV := Lib.hid (fun (W : World) (h : RowAt W A (intCells f.kinds)) => rvalid_any f A c W h hn)
  rw [hok] at HV
  have HR := Lib.hid hr
  clear hr hok
  obtain ⟨eye, rings, sec, kinds⟩ := f
  simp only [Fac.val, pairV] at *
  go_enter Try.func123, Try.ntmps123
  go_wp2_with fail
  refine (HV.out _ (hL.alloc _)).mono ?_
  rintro e w1 ⟨rfl, hb1⟩
  have F : Bk w1 w.heap.size 24 #[.int .i64 eye, .int .i64 rings, .int .i64 sec, .slice A kinds.length c] := (bk_last rfl).keep hb1
  have hB1 : Below w.heap.size w w1 := ((Below.refl _ _).alloc (Nat.le_refl _) _).trans (hb1.mono (by simp))
  have f0 := F.cell 0
  have f1 := F.cell 1
  simp at f0 f1
  clear hb1
  go_wp2_with (go_at_call 125; refine (r1with_any _ _ _ _).mono ?_; rw [HR.out]; rintro e w' ⟨rfl, rfl⟩)
  go_ret2
  exact ⟨rfl, hB1⟩

attribute [local go_sem] Fac.val Stn.val Stn.cells pairV

set_option maxHeartbeats 2000000 in
theorem rmass_any (s : Stn) (z : Loc) (i : Nat) (w : World) (hs : StAt w s z) (hok : s.ok = true) (hi : i < s.f.kinds.length) :
    Calls Try.prog 96 #[s.val z, .int .i64 i] w fun e w' => e = .returned (.int .i64 (massV s i)) ∧ Below w.heap.size w w' := by
  obtain ⟨h1, h2, h3, _⟩ := stn_ok hok
  obtain ⟨k1, k2, k3, k4, k5, k6, k7, k8⟩ := fac_ok h1
  obtain ⟨r1, r2, _⟩ := cell_ring hok hi
  have hmb := mass_bound hok hi
  have hR : inB ((i : Int) / s.f.sec) 0 (s.f.rings - 1) = true := by simp [inB]; omega
  have HW : Hid (∀ W, StAt W s z → Calls Try.prog 123 #[s.f.val z.a1 z.c1, .int .i64 ((i : Int) / s.f.sec)] W fun e w' => e = .returned (pairV (2 * (s.f.eye + (i : Int) / s.f.sec) + 1, 0)) ∧ Below W.heap.size W w') := fun W hW => rweight_any s.f z.a1 z.c1 ((i : Int) / s.f.sec) W hW.kinds hW.n1 h1 hR
  unfold massV at hmb ⊢
  have hhl : i < s.heights.length := by omega
  have hiI : (i : Int) < (s.heights.length : Int) := by omega
  have hsz : (s.f.sec == 0) = false := by simp; omega
  clear h3 h2 hR
  generalize hx : s.heights.getD i 0 = x at *
  generalize hr : (i : Int) / s.f.sec = r at *
  unfold Stn.val
  go_enter Try.func96, Try.ntmps96
  go_wp2_with fail
  obtain ⟨X, hs1, hB⟩ := box_stn hs
  generalize w.alloc (.cells _ 28) = V at *
  refine wp_region_extmix 8 (by kernel_rfl) (by kernel_rfl) (fun _ _ d _ _ h => by cases d <;> exact h) ?_
  simp only [List.take_succ_cons, List.take_zero, List.drop_succ_cons, List.drop_zero]
  obtain ⟨x0, x1, x2, x3, x4, _⟩ := stn_cell0 X
  have X0 := fun x : Ext V => keepc x.bel x0
  have X1 := fun x : Ext V => keepc x.bel x1
  have X2 := fun x : Ext V => keepc x.bel x2
  have X3 := fun x : Ext V => keepc x.bel x3
  have HH : Hid (∀ x : Ext V, Calls Try.prog 123 #[.agg #[.int .i64 s.f.eye, .int .i64 s.f.rings, .int .i64 s.f.sec, .slice z.a1 s.f.kinds.length z.c1], .int .i64 r] x.w fun e w' => e = .returned (pairV (2 * (s.f.eye + r) + 1, 0)) ∧ Below x.w.heap.size x.w w') := fun x => HW.out _ (hs1.below x.bel)
  clear HW x0 x1 x2 x3 x4
  repeat (go_big_quiet_step ((go_at_call 123; exact ext_of (HH.out _))))
  refine wpQuiet_nil ?_
  rintro _ ⟨y, rfl⟩
  clear X0 X1 X2 X3 HH
  have hb := y.bel
  generalize y.w = w2 at hb ⊢
  replace X := X.keep hb
  replace hs1 := hs1.below hb
  replace hB := hB.trans (hb.mono hB.size)
  obtain ⟨x0, x1, x2, x3, x4, _⟩ := stn_cell0 X
  obtain ⟨b2, o2, ha2, hb2, hc2⟩ := hs1.heights.intD (by omega)
  have d2 := hc2 i (by omega)
  rw [hx] at d2
  rw [ha2] at x4
  clear hc2 ha2 hx hr
  go_wp2_with fail
  go_ret
  exact ⟨rfl, hB⟩


set_option maxRecDepth 100000 in
set_option maxHeartbeats 8000000 in
theorem rmoment_any (s : Stn) (z : Loc) (w : World) (hs : StAt w s z) (hok : s.ok = true) :
    Calls Try.prog 77 #[s.val z] w fun e w' => e = .returned (.agg #[.int .i64 (momX s s.f.kinds.length), .int .i64 (momY s s.f.kinds.length)]) ∧ Below w.heap.size w w' := by
  obtain ⟨h1, h2, h3, h4, _⟩ := stn_ok hok
  obtain ⟨k1, k2, k3, k4, k5, k6, k7, k8⟩ := fac_ok h1
  have HOK := Lib.hid hok
  have hln : s.heights.length = s.f.kinds.length := h2
  have hsz : (s.f.sec == 0) = false := by simp; omega
  unfold Stn.val
  obtain ⟨U, hU⟩ : ∃ U, ((w.alloc (.cells (s.cells z) 28)).alloc (.cells #[.int .i64 0, .int .i64 0] 43)).alloc (.cells #[.int .i64 0, .int .i64 0] 43) = U := ⟨_, rfl⟩
  have HU := Lib.hid hU
  have X : Bk U w.heap.size 28 (s.cells z) := by rw [← hU]; exact ((bk_last rfl).alloc _).alloc _
  have R : Bk U (w.heap.size + 1) 43 #[.int .i64 0, .int .i64 0] := by rw [← hU]; exact (bk_last (by simp)).alloc _
  have M : Bk U (w.heap.size + 1 + 1) 43 #[.int .i64 (momX s 0), .int .i64 (momY s 0)] := by rw [← hU]; exact bk_last (by simp)
  have hB : Below w.heap.size w U := by
    rw [← hU]
    exact (((Below.refl _ _).alloc (Nat.le_refl _) _).alloc (by simp) _).alloc (by simp; omega) _
  have HLN := Lib.hid hln
  clear hU h3 h1 h2 k7 hln
  unfold Stn.cells at HU
  unfold Stn.cells
  go_enter Try.func77, Try.ntmps77
  go_upto_region 3 with fail
  rw [HU.out]
  clear HU
  go_loopw [4] (fun i wr => ∃ k : Nat, k ≤ s.f.kinds.length ∧ i = .int .i64 k ∧ Bk wr w.heap.size 28 (s.cells z) ∧ Bk wr (w.heap.size + 1) 43 #[.int .i64 0, .int .i64 0] ∧ Bk wr (w.heap.size + 1 + 1) 43 #[.int .i64 (momX s k), .int .i64 (momY s k)] ∧ Below w.heap.size w wr) (fun i _ => s.f.kinds.length - (intOf i).toNat)
  case atStart => exact ⟨0, Nat.zero_le _, rfl, X, R, M, hB⟩
  case round =>
    clear X R M hB
    obtain ⟨k, hk, rfl, X, R, M, hB⟩ := hrel
    obtain ⟨x0, x1, x2, x3, x4, x5, x6, x7⟩ := stn_cell0 X
    by_cases hlt : k < s.f.kinds.length
    · have hkI : (k : Int) < s.heights.length := by have := HLN.out; omega
      have hs1 := hs.below hB
      have hmb := mass_bound HOK.out hlt
      have hab := arm_bound HOK.out hlt
      have hdb := dir_bound HOK.out k hab
      have hmo := mom_bound HOK.out k hk
      obtain ⟨r1, r2, r3, r4⟩ := cell_ring HOK.out hlt
      obtain ⟨hml, hmi⟩ := sec_idx HOK.out k
      obtain ⟨b, off, hA, hb, hc⟩ := hs1.compass.pt (by omega)
      obtain ⟨c0, c1⟩ := hc _ hml
      have HM : Hid (∀ x : Ext wr, Calls Try.prog 96 #[.agg (s.cells z), .int .i64 k] x.w fun e w' => e = .returned (.int .i64 (massV s k)) ∧ Below x.w.heap.size x.w w') := fun x => rmass_any s z k x.w (hs1.below x.bel) HOK.out hlt
      have HN : Hid (momX s (k + 1) = momX s k + (massV s k * (s.f.eye + (k : Int) / s.f.sec + 1)) * (s.compass.getD (k % s.f.sec.toNat) (0, 0)).1 ∧ momY s (k + 1) = momY s k + (massV s k * (s.f.eye + (k : Int) / s.f.sec + 1)) * (s.compass.getD (k % s.f.sec.toNat) (0, 0)).2) := by
        constructor
        · simp only [momX]; rw [Int.mul_comm]
        · simp only [momY]; rw [Int.mul_comm]
      clear hc
      unfold Stn.cells at HM
      rw [Int.mul_comm, Int.mul_comm (s.compass.getD (k % s.f.sec.toNat) (0, 0)).2] at hdb
      generalize momX s k = mx at *
      generalize momY s k = my at *
      generalize massV s k = mv at *
      generalize s.compass.getD (k % s.f.sec.toNat) (0, 0) = d at *
      generalize k % s.f.sec.toNat = m at *
      obtain ⟨dx, dy⟩ := d
      simp only at c0 c1 hdb HN
      generalize hr : (k : Int) / s.f.sec = r at *
      have hmlI : (m : Int) < s.compass.length := by omega
      have HDB := Lib.hid (And.intro hdb (And.intro hmo (And.intro hmi (And.intro r3 r4))))
      have HA := Lib.hid hA
      clear hdb hmo hmi r3 r4 hmb hml hb hA
      go_upto_region 5 with fail
      refine wp_region_ext (by kernel_rfl) (by kernel_rfl) ?_
      have X0 := fun x : Ext wr => keepc x.bel x0
      have X1 := fun x : Ext wr => keepc x.bel x1
      have X2 := fun x : Ext wr => keepc x.bel x2
      have X3 := fun x : Ext wr => keepc x.bel x3
      have X4 := fun x : Ext wr => keepc x.bel x4
      have X5 := fun x : Ext wr => keepc x.bel x5
      have X6 := fun x : Ext wr => keepc x.bel x6
      have X7 := fun x : Ext wr => keepc x.bel x7
      clear x0 x1 x2 x3 x4 x5 x6 x7
      repeat (go_big_quiet_step ((go_at_call 96; exact ext_of (HM.out _))))
      refine wpQuiet_nil ?_
      rintro _ ⟨y, rfl⟩
      clear X0 X1 X2 X3 X4 X5 X6 X7 HM
      have hb1 := y.bel
      generalize y.w = w2 at hb1 ⊢
      replace X := X.keep hb1
      replace R := R.keep hb1
      replace M := M.keep hb1
      replace hB := hB.trans (hb1.mono hB.size)
      have c0' := keepc hb1 c0
      have c1' := keepc hb1 c1
      obtain ⟨x0, x1, x2, x3, x4, x5, x6, x7⟩ := stn_cell0 X
      rw [HA.out] at x5
      clear c0 c1 HA hb1 hs1
      have hbl : b < w2.heap.size := World.block_lt_of_cell? w2 _ c0'
      have xl := X.lt
      obtain ⟨hdb, hmo, hmi, r3, r4⟩ := HDB.out
      clear HDB
      have hmt : (k : Int).tmod s.f.sec = m := by rw [Int.tmod_eq_emod_of_nonneg (by omega)]; exact hmi
      have HMO := Lib.hid (And.intro hdb hmo)
      clear hdb hmo r3 r4
      go_upto_region 6 with fail
      go_region
      have D : Bk (w2.alloc (.cells #[.int .i64 dx, .int .i64 dy] 43)).drew w2.heap.size 43 #[.int .i64 dx, .int .i64 dy] := bk_last rfl
      have hba : Below w2.heap.size w2 (w2.alloc (.cells #[.int .i64 dx, .int .i64 dy] 43)).drew := ((Below.refl _ _).alloc (Nat.le_refl _) _).drew
      have X3 := X.keep hba
      have R3 := R.keep hba
      have M3 := M.keep hba
      have hB3 := hB.trans (hba.mono hB.size)
      have hml2 := M.lt
      clear X R M hB hba c0' c1' x0 x1 x2 x3 x4 x5 x6 x7
      generalize w2.heap.size = u at *
      generalize (w2.alloc (.cells #[.int .i64 dx, .int .i64 dy] 43)).drew = V at *
      have d0 := D.cell 0
      have d1 := D.cell 1
      have m0 := M3.cell 0
      have m1 := M3.cell 1
      have m2 := M3.fz 0
      have m3 := M3.fz 1
      simp at d0 d1 m0 m1
      obtain ⟨⟨⟨q1, q2⟩, q3, q4⟩, ⟨p1, p2⟩, p3, p4⟩ := HMO.out
      generalize mv * (s.f.eye + r + 1) = t at *
      have hw1 := IntWalk.i64_in (t * dx) (by omega)
      have hw2 := IntWalk.i64_in (t * dy) (by omega)
      have hw3 := IntWalk.i64_in (mx + t * dx) (by omega)
      have hw4 := IntWalk.i64_in (my + t * dy) (by omega)
      have HX2 := Lib.hid ((X3.far (p := ⟨w.heap.size + 1 + 1, 0, none⟩) (by simp; omega) (.int .i64 (mx + t * dx))).far (p := ⟨w.heap.size + 1 + 1, 1, none⟩) (by simp; omega) (.int .i64 (my + t * dy)))
      have HR2 := Lib.hid ((R3.far (p := ⟨w.heap.size + 1 + 1, 0, none⟩) (by simp) (.int .i64 (mx + t * dx))).far (p := ⟨w.heap.size + 1 + 1, 1, none⟩) (by simp) (.int .i64 (my + t * dy)))
      have HM2 := Lib.hid ((M3.put 0 (.int .i64 (mx + t * dx))).put 1 (.int .i64 (my + t * dy)))
      have HB2 := Lib.hid ((hB3.setCell (p := ⟨w.heap.size + 1 + 1, 0, none⟩) (by simp; omega) (.int .i64 (mx + t * dx))).setCell (p := ⟨w.heap.size + 1 + 1, 1, none⟩) (by simp; omega) (.int .i64 (my + t * dy)))
      clear HMO q1 q2 q3 q4 p1 p2 p3 p4 X3 R3 M3 hB3
      go_wp2_with fail
      go_roundw
      case rel => exact ⟨k + 1, by omega, by go_num, HX2.out, HR2.out, by rw [HN.out.1, HN.out.2]; exact HM2.out, HB2.out⟩
      case measure => simp [intOf]; omega
    · obtain rfl : k = s.f.kinds.length := by omega
      have hge : (s.heights.length : Int) ≤ s.f.kinds.length := by have := HLN.out; omega
      have q0 := M.cell 0
      have q1 := M.cell 1
      have r0 := R.cell 0
      have r1 := R.cell 1
      have r2 := R.fz 0
      have r3 := R.fz 1
      have rl := R.lt
      simp at q0 q1 r0 r1
      go_wp2_with fail
      refine bodyPost_ret (v := .agg #[.int .i64 (momX s s.f.kinds.length), .int .i64 (momY s s.f.kinds.length)]) (by simp [results, Try.results77, go_sem, r0, r1]) rfl ⟨rfl, ?_⟩
      repeat (first | exact hB | refine Below.setCell ?_ (by simp <;> omega) _)

end Go.Proofs.Ythmngnfdfelkeaa
