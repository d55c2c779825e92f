/-
  What is proved: the contract of the specification's Stands.
-/
import Derived.Test.YtheifigkclegdaaTurns
namespace Go.Proofs.Ytheifigkclegdaa
open Go.RowKit
attribute [local go_sem] Res.val

set_option maxHeartbeats 1000000 in
theorem rasked_any (A : Option Addr) (c : Nat) (L : List Mesh) (t : Int) (w : World) (hL : RowAt w A (meshCells L)) (hn : L.length ≤ 9223372036854775807) :
    Calls Try.prog 63 #[.agg #[.slice A L.length c], .int .i64 t] w fun e w' => e = .returned (.int .i64 (askedR L t)) ∧ Below w.heap.size w w' := by
  by_cases hok : okTrain L = true
  · by_cases ht : inB t 0 1000000 = true
    all_goals
      go_enter Try.func63, Try.ntmps63
      go_wp2_with (first | (go_at_call 34; refine (rvalidTrain_any _ _ _ _ (hL.alloc _) hn).mono ?_; rintro e w1 ⟨rfl, hb1⟩) | (go_at_call 78; refine (rwithin_any _ _ _ _).mono ?_; rintro e w' ⟨rfl, rfl⟩))
      go_ret
      exact ⟨ret_int (by simp [askedR, hok, ht]), ((Below.refl _ _).alloc (Nat.le_refl _) _).trans (hb1.mono (by simp))⟩
  · have hok' : okTrain L = false := by simpa using hok
    go_enter Try.func63, Try.ntmps63
    go_wp2_with (first | (go_at_call 34; refine (rvalidTrain_any _ _ _ _ (hL.alloc _) hn).mono ?_; rintro e w1 ⟨rfl, hb1⟩) | (go_at_call 78; refine (rwithin_any _ _ _ _).mono ?_; rintro e w' ⟨rfl, rfl⟩))
    go_ret
    exact ⟨ret_int (by simp [askedR, hok']), ((Below.refl _ _).alloc (Nat.le_refl _) _).trans (hb1.mono (by simp))⟩

set_option maxHeartbeats 1000000 in
theorem rstand_any (t z : Nat) (r : Res) (w : World) (ht : t ≤ 1000000) (hr : r.num ≤ 1000000000) (hd : 1 ≤ r.den) (hz : 1 ≤ z) (hz2 : z ≤ 4096) :
    Calls Try.prog 65 #[.agg #[.int .i64 r.num, .int .i64 r.den], .int .i64 t, .int .i64 z] w fun e w' => e = .returned (.int .i64 (standV r t z : Nat)) ∧ Below w.heap.size w w' := by
  obtain ⟨m1, m2, m3, m4⟩ := stand_bound t r.num z ht hr hz2
  have d1 : (1 : Int) ≤ (r.den : Int) := by omega
  have d2 : ((r.den : Int) == 0) = false := by simp; omega
  have z1 : (1 : Int) ≤ (z : Int) := by omega
  have z2 : ((z : Int) == 0) = false := by simp; omega
  have q1 : 0 ≤ (t : Int) * r.num * z / r.den := Int.ediv_nonneg m4 (by omega)
  have q2 : (t : Int) * r.num * z / r.den ≤ 4096000000000000000 := Int.le_trans (Int.ediv_le_self _ m4) m3
  have HV : Hid ((t : Int) * r.num * z / r.den % z = (standV r t z : Nat)) := by unfold Hid standV; simp
  go_enter Try.func65, Try.ntmps65
  go_wp2
  go_ret
  exact ⟨ret_int HV.out, (Below.refl _ _).alloc (Nat.le_refl _) _⟩

theorem shaft_fit1 {L : List Mesh} (hok : okTrain L = true) (i : Nat) (h : (shaftR L i).err = 0) : (shaftR L i).num ≤ 1000000000 ∧ 1 ≤ (shaftR L i).den ∧ (shaftR L i).den ≤ 1000000000 := by
  obtain ⟨k1, k2, k3⟩ := ok_train hok
  have k4 : ∀ m ∈ L.take i, m.ok = true := fun m hm => k3 m (List.mem_of_mem_take hm)
  have hp : 1 ≤ pr (dns (L.take i)) := pr_pos _ fun x hx => by
    obtain ⟨m, hm, rfl⟩ := List.mem_map.1 hx
    have := ok_mesh (k4 m hm)
    omega
  have h2 := (drs_getD k3 0).1
  have hD : 1 ≤ pr (dns (L.take i)) * (drs L).getD 0 1 := Nat.mul_le_mul hp h2
  obtain ⟨_, _, g1, g2, g3⟩ := low_ok _ _ hD h
  exact ⟨g2, g1, g3⟩

theorem turns_int (j : Int) (b off c i : Nat) (L : List Mesh) (w : World) (hj : j = (i : Nat)) (hL : RowAt w (some ⟨b, off, none⟩) (meshCells L)) (hok : okTrain L = true) (hi : i ≤ L.length) :
    Calls Try.prog 64 #[.agg #[.slice (some ⟨b, off, none⟩) L.length c], .int .i64 j] w fun e w' => e = .returned (shaftR L i).val ∧ Below w.heap.size w w' := by
  subst hj
  exact turns_any b off c i L w hL hok hi

set_option maxRecDepth 100000 in
set_option maxHeartbeats 8000000 in
theorem rstands_ok (b off c : Nat) (L : List Mesh) (t : Nat) (w : World) (hL : RowAt w (some ⟨b, off, none⟩) (meshCells L)) (hcm : L.length ≤ 9223372036854775807) (ha : askedR L t = 0) :
    Calls Try.prog 19 #[.agg #[.slice (some ⟨b, off, none⟩) L.length c], .int .i64 t] w (StandsPost L t w) := by
  obtain ⟨i0, hi0, hz0, hz1, hz2⟩ := info_parts intInfo
  obtain ⟨hok, ht0, ht1⟩ := asked_ok ha
  obtain ⟨k1, k2, k3⟩ := ok_train hok
  have HA := Lib.hid ha
  have HL := Lib.hid (And.intro hL (And.intro hok k3))
  clear hL hok k3 ha
  go_enter Try.func19, Try.ntmps19
  go_wp2_with fail
  refine (rasked_any _ _ _ _ _ (HL.out.1.alloc _) hcm).mono ?_
  rintro e w1 ⟨rfl, hb1⟩
  have X1 : Bk w1 w.heap.size 24 #[.slice (some ⟨b, off, none⟩) L.length c] := (bk_last rfl).keep hb1
  have hB1 : Below w.heap.size w w1 := ((Below.refl _ _).alloc (Nat.le_refl _) _).trans (hb1.mono (by simp))
  clear hb1
  rw [HA.out]
  go_wp2
  go_loopw [7, 8] (fun v i wr => ∃ k : Nat, k ≤ L.length ∧ i = .int .i64 k ∧ wr.ownsRow (w.heap.size + 1) 3 1 v (2 * k) (standsCells L t k) ∧ Bk wr w.heap.size 24 #[.slice (some ⟨b, off, none⟩) L.length c] ∧ Below w.heap.size w wr ∧ Hid (∀ i, i < k → (shaftR L i).err = 0 ∧ (shaftR L (i + 1)).err = 0)) (fun _ i _ => L.length - (intOf i).toNat)
  case atStart => exact ⟨0, Nat.zero_le _, rfl, World.ownsRow_nil _ _ _ _, X1, hB1, fun i h => absurd h (by omega)⟩
  case round =>
    clear X1 hB1
    obtain ⟨k, hk, rfl, hown, X, hB, HE⟩ := hrel
    have hx := X.cell 0
    simp at hx
    by_cases hlt : k < L.length
    · have hkI : (k : Int) < (L.length : Int) := by omega
      have hU := hown.lt
      go_wp2_with fail
      refine (turns_any b off c k L _ (HL.out.1.below hB) HL.out.2.1 (by omega)).mono ?_
      rintro e w2 ⟨rfl, hb2⟩
      replace X := X.keep hb2
      replace hown := own_keep hown hb2
      have hB2 := hB.trans (hb2.mono hB.size)
      have hs2 := hb2.size
      clear hb2 hx hB
      have hx := X.cell 0
      simp at hx
      have hxl := X.lt
      have hra := shaftR_err L k
      have hfa := shaft_fit1 HL.out.2.1 k
      have HRA : Hid (∃ r, shaftR L k = r) := ⟨_, rfl⟩
      obtain ⟨ra, hra'⟩ := HRA.out
      have HRa := Lib.hid hra'
      rw [hra'] at hra hfa ⊢
      clear hra' HRA
      go_wp2_with fail
      refine (turns_int _ b off c (k + 1) L _ (by simp) ((HL.out.1.below hB2).alloc _) HL.out.2.1 (by omega)).mono ?_
      rintro e w3 ⟨rfl, hb3⟩
      have Ba : Bk w3 w2.heap.size 42 #[.int .i64 ra.num, .int .i64 ra.den] := (bk_last rfl).keep hb3
      replace X := (X.alloc _).keep hb3
      replace hown := own_keep (hown.alloc _) hb3
      have hB3 : Below w.heap.size w w3 := (hB2.alloc hB2.size _).trans (hb3.mono (by have := hB2.size; simp; omega))
      have hs3 := hb3.size
      simp at hs3
      clear hb3 hx hxl hB2
      have hx := X.cell 0
      have a0 := Ba.cell 0
      have a1 := Ba.cell 1
      simp at hx a0 a1
      have hxl := X.lt
      have hal := Ba.lt
      have hrb := shaftR_err L (k + 1)
      have hfb := shaft_fit1 HL.out.2.1 (k + 1)
      have HRB : Hid (∃ r, shaftR L (k + 1) = r) := ⟨_, rfl⟩
      obtain ⟨rb, hrb'⟩ := HRB.out
      have HRb := Lib.hid hrb'
      rw [hrb'] at hrb hfb ⊢
      clear hrb' HRB
      rcases hra with hra | hra
      · rcases hrb with hrb | hrb
        · obtain ⟨fa1, fa2, fa3⟩ := hfa hra
          obtain ⟨fb1, fb2, fb3⟩ := hfb hrb
          have HE' : Hid (∀ i, i < k + 1 → (shaftR L i).err = 0 ∧ (shaftR L (i + 1)).err = 0) := fun i hi => by
            rcases Nat.lt_or_ge i k with h | h
            · exact HE.out i h
            · have : i = k := by omega
              subst this
              rw [HRa.out, HRb.out]
              exact ⟨hra, hrb⟩
          obtain ⟨an, ad, ae⟩ := ra
          obtain ⟨bn, bd, be⟩ := rb
          simp only at hra hrb fa1 fa2 fa3 fb1 fb2 fb3 a0 a1 Ba
          subst hra hrb
          obtain ⟨b', off', e, hbb, hcc⟩ := (HL.out.1.below hB3).mesh (by omega)
          injection e with e
          injection e with e1 e2
          subst e1 e2
          obtain ⟨c0, c1, _⟩ := hcc k hlt
          have hm := ok_mesh (HL.out.2.2 L[k] (List.getElem_mem _))
          have hdr : L[k].dr = ((drs L).getD k 1 : Nat) := by simp [drs, List.getD_eq_getElem?_getD, hlt]; omega
          have hdn : L[k].dn = ((dns L).getD k 1 : Nat) := by simp [dns, List.getD_eq_getElem?_getD, hlt]; omega
          have hd1 := drs_getD HL.out.2.2 k
          have hd2 := dns_getD HL.out.2.2 k
          have hSd := standsCells_succ L t k
          rw [HRa.out, HRb.out] at hSd
          rw [hdr] at c0
          rw [hdn] at c1
          have HS := Lib.hid hSd
          clear hSd hcc hm hdr HE HRa HRb hfa hfb
          generalize (drs L).getD k 1 = dr at *
          generalize (dns L).getD k 1 = dn at *
          go_upto_region 12 with fail
          have Bb : Bk (w3.alloc (Obj.cells #[Value.int IntKind.i64 bn, Value.int IntKind.i64 bd] 42)) w3.heap.size 42 #[.int .i64 bn, .int .i64 bd] := bk_last rfl
          replace Ba := Ba.alloc (Obj.cells #[Value.int IntKind.i64 bn, Value.int IntKind.i64 bd] 42)
          replace X := X.alloc (Obj.cells #[Value.int IntKind.i64 bn, Value.int IntKind.i64 bd] 42)
          replace hown := hown.alloc (Obj.cells #[Value.int IntKind.i64 bn, Value.int IntKind.i64 bd] 42)
          have hBV := hB3.alloc hB3.size (Obj.cells #[Value.int IntKind.i64 bn, Value.int IntKind.i64 bd] 42)
          replace c0 := keepA (x := Obj.cells #[Value.int IntKind.i64 bn, Value.int IntKind.i64 bd] 42) c0
          have hsV : (w3.alloc (Obj.cells #[Value.int IntKind.i64 bn, Value.int IntKind.i64 bd] 42)).heap.size = w3.heap.size + 1 := by simp
          have hBz : w.heap.size < w3.heap.size := by have := hB3.size; omega
          have HDN : Hid (L[k].dn = (dn : Nat)) := hdn
          clear hx a0 a1 hxl hal hB3 hbb c1 hdn
          generalize w3.alloc (Obj.cells #[Value.int IntKind.i64 bn, Value.int IntKind.i64 bd] 42) = V at *
          have hx := X.cell 0
          have a0 := Ba.cell 0
          have a1 := Ba.cell 1
          simp at hx a0 a1
          refine wp_region_extpre 1 10 (by kernel_rfl) (by kernel_rfl) (fun _ _ d _ _ h => by cases d <;> exact h) ?_
          simp only [List.take_succ_cons, List.take_zero, List.drop_succ_cons, List.drop_zero]
          have F1 := fun x : Ext V => keepc x.bel hx
          have F2 := fun x : Ext V => keepc x.bel a0
          have F3 := fun x : Ext V => keepc x.bel a1
          have F4 := fun x : Ext V => keepc x.bel c0
          have HC := Lib.hid (fun x : Ext V => rstand_any t dr ⟨an, ad, 0⟩ x.w (by omega) fa1 fa2 hd1.1 hd1.2)
          clear hx a0 a1 c0
          repeat (go_big_quiet_step ((go_at_call 65; exact ext_of (HC.out _))))
          refine wpQuiet_nil ?_
          rintro _ ⟨x, rfl⟩
          clear F1 F2 F3 F4 HC
          have hb4 := x.bel
          generalize x.w = w4 at hb4 ⊢
          replace hown := own_keep hown hb4
          replace X := X.keep hb4
          replace Bb := Bb.keep hb4
          have hB4 : Below w.heap.size w w4 := hBV.trans (hb4.mono hBV.size)
          have hs4 := hb4.size
          have E1 : 2 * k + 1 ≤ maxLen := by unfold maxLen; omega
          have E2 : (2 * k + 1) * 8 ≤ 140737488355328 := by omega
          have E3 : 2 * k + 1 + 1 ≤ maxLen := by unfold maxLen; omega
          have E4 : (2 * k + 1 + 1) * 8 ≤ 140737488355328 := by omega
          have E := Lib.hid (And.intro (And.intro E1 E2) (And.intro E3 E4))
          have HSW : Hid (w.heap.size + 1 ≤ w4.heap.size) := by unfold Hid; have := hBz; omega
          clear hb4 hBV Ba E1 E2 E3 E4
          generalize standV ⟨an, ad, 0⟩ t dr = sa at *
          go_upto_region 13 with (at_builtin; refine (wpList_append_own_at _ rfl _ _ 27 rfl (w.heap.size + 1) 3 i0 _ 1 8 Try.underlying27 hi0 hz0 hz1 hz2 rfl (by decide) _ _ _ rfl (hown.alloc _) ⟨w4.heap.size, 0, none⟩ 1 1 [.int .i64 sa] rfl rfl (cell_one_new _ _ _) (by simp [Value.oneCell']) E.out.1.1 E.out.1.2 (by simp; have := HSW.out; omega) ?_); intro v' w5 hown' hg _ _)
          have hg' : (w4.alloc (Obj.cells #[Value.int IntKind.i64 sa] 3)).grownBy w5 u7.ownBlock := hg
          clear hg
          replace X : Bk w5 w.heap.size 24 _ := (X.alloc _).grown hg' (fun e => by have := (hU _ e.symm).1; omega)
          replace Bb : Bk w5 w3.heap.size 42 _ := (Bb.alloc _).grown hg' (fun e => by have := (hU _ e.symm).2; omega)
          have hB5 : Below w.heap.size w w5 := (hB4.alloc hB4.size _).grown hg' (by have := HSW.out; simp; omega) (fun g hg => by have := (hU g hg).1; omega)
          have hs5 := hg'.size
          simp at hs5
          clear hg' hown hB4
          obtain ⟨b', off', e, hbb, hcc⟩ := (HL.out.1.below hB5).mesh (by omega)
          injection e with e
          injection e with e1 e2
          subst e1 e2
          obtain ⟨_, c1, _⟩ := hcc k hlt
          rw [HDN.out] at c1
          clear hcc
          have hx := X.cell 0
          have b0 := Bb.cell 0
          have b1 := Bb.cell 1
          simp at hx b0 b1
          refine wp_region_extpre 1 10 (by kernel_rfl) (by kernel_rfl) (fun _ _ d _ _ h => by cases d <;> exact h) ?_
          simp only [List.take_succ_cons, List.take_zero, List.drop_succ_cons, List.drop_zero]
          have F1 := fun x : Ext w5 => keepc x.bel hx
          have F2 := fun x : Ext w5 => keepc x.bel b0
          have F3 := fun x : Ext w5 => keepc x.bel b1
          have F4 := fun x : Ext w5 => keepc x.bel c1
          have HC := Lib.hid (fun x : Ext w5 => rstand_any t dn ⟨bn, bd, 0⟩ x.w (by omega) fb1 fb2 hd2.1 hd2.2)
          clear hx b0 b1 c1
          repeat (go_big_quiet_step ((go_at_call 65; exact ext_of (HC.out _))))
          refine wpQuiet_nil ?_
          rintro _ ⟨x, rfl⟩
          clear F1 F2 F3 F4 HC
          have hb6 := x.bel
          generalize x.w = w6 at hb6 ⊢
          replace hown' := own_keep hown' hb6
          replace X := X.keep hb6
          have hB6 : Below w.heap.size w w6 := hB5.trans (hb6.mono hB5.size)
          have hs6 := hb6.size
          have HSW6 : Hid (w.heap.size + 1 ≤ w6.heap.size) := by unfold Hid; have := HSW.out; omega
          have hU' := hown'.lt
          clear hb6 Bb hB5
          generalize standV ⟨bn, bd, 0⟩ t dn = sb at *
          go_wp2_with (at_builtin; refine (wpList_append_own_at _ rfl _ _ 27 rfl (w.heap.size + 1) 3 i0 _ 1 8 Try.underlying27 hi0 hz0 hz1 hz2 rfl (by decide) _ _ _ rfl (hown'.alloc _) ⟨w6.heap.size, 0, none⟩ 1 1 [.int .i64 sb] rfl rfl (cell_one_new _ _ _) (by simp [Value.oneCell']) E.out.2.1 E.out.2.2 (by simp; have := HSW6.out; omega) ?_); intro v2 w7 hown2 hg _ _)
          have hg' : (w6.alloc (Obj.cells #[Value.int IntKind.i64 sb] 3)).grownBy w7 v'.ownBlock := hg
          clear hg
          have hB7 : Below w.heap.size w w7 := (hB6.alloc hB6.size _).grown hg' (by have := HSW6.out; simp; omega) (fun g hg => by have := (hU' g hg).1; omega)
          have X7 : Bk w7 w.heap.size 24 _ := (X.alloc _).grown hg' (fun e => by have := (hU' _ e.symm).1; omega)
          go_roundw
          case rel => exact ⟨k + 1, by omega, by go_num, by rw [HS.out]; simpa [List.append_assoc, Nat.mul_add] using hown2, X7, hB7, HE'⟩
          case measure => simp [intOf]; omega
        · subst hrb
          obtain ⟨an, ad, ae⟩ := ra
          simp only at hra a0 a1 Ba
          subst hra
          go_wp2
          go_ret2
          exact ⟨hB3.alloc hB3.size _, .inr (.inl ⟨HA.out, fun h => by have := h (k + 1) (by omega); rw [HRb.out] at this; simp at this, rfl⟩)⟩
      · subst hra
        obtain ⟨bn, bd, be⟩ := rb
        go_wp2
        go_ret2
        exact ⟨hB3.alloc hB3.size _, .inr (.inl ⟨HA.out, fun h => by have := h k (by omega); rw [HRa.out] at this; simp at this, rfl⟩)⟩
    · have : k = L.length := by omega
      subst this
      have hS : shaftsOK L (L.length + 1) := fun i hi => by
        rcases Nat.lt_or_ge i L.length with h | h
        · exact (HE.out i h).1
        · have := (HE.out (i - 1) (by omega)).2
          rwa [show i - 1 + 1 = i by omega] at this
      go_wp2
      go_ret2
      exact ⟨hB, .inr (.inr ⟨HA.out, hS, _, rfl, own_base hown (by omega)⟩)⟩

theorem rstands_any (A : Option Addr) (c : Nat) (L : List Mesh) (t : Int) (w : World) (hL : RowAt w A (meshCells L)) (hcm : L.length ≤ 9223372036854775807) :
    Calls Try.prog 19 #[.agg #[.slice A L.length c], .int .i64 t] w (StandsPost L t w) := by
  by_cases ha : askedR L t = 0
  · obtain ⟨hok, ht0, ht1⟩ := asked_ok ha
    obtain ⟨k1, _, _⟩ := ok_train hok
    obtain ⟨b, off, rfl, _⟩ := hL (by rw [meshCells_len]; omega)
    obtain ⟨t', rfl⟩ := Int.eq_ofNat_of_zero_le ht0
    exact rstands_ok b off c L t' w hL hcm ha
  · have HA := Lib.hid ha
    clear ha
    go_enter Try.func19, Try.ntmps19
    go_wp2_with fail
    refine (rasked_any _ _ _ _ _ (hL.alloc _) hcm).mono ?_
    rintro e w1 ⟨rfl, hb1⟩
    have hb2 : Below w.heap.size w w1 := ((Below.refl _ _).alloc (Nat.le_refl _) _).trans (hb1.mono (by simp))
    have hne : ((askedR L t) == 0) = false := by simpa using HA.out
    clear hb1
    go_wp2
    go_ret2
    exact ⟨hb2, .inl ⟨HA.out, rfl⟩⟩

end Go.Proofs.Ytheifigkclegdaa
