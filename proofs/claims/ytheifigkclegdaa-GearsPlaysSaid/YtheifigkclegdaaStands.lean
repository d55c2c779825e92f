/-
  What is proved: the contract of gears.Stands.
-/
import Derived.Test.YtheifigkclegdaaShafts
import Derived.Test.YtheifigkclegdaaMix2
namespace Go.Proofs.Ytheifigkclegdaa
open Go.RowKit
attribute [local go_sem] Res.val

/-- The tooth at which a wheel of z teeth stands. -/
def standV (r : Res) (t z : Nat) : Nat := t * r.num * z / r.den % z

theorem stand_bound (t n z : Nat) (ht : t ≤ 1000000) (hn : n ≤ 1000000000) (hz : z ≤ 4096) : (t : Int) * n ≤ 1000000000000000 ∧ 0 ≤ (t : Int) * n ∧ (t : Int) * n * z ≤ 4096000000000000000 ∧ 0 ≤ (t : Int) * n * z := by
  have h1 : t * n ≤ 1000000 * 1000000000 := Nat.mul_le_mul ht hn
  have h2 : t * n * z ≤ 1000000 * 1000000000 * 4096 := Nat.mul_le_mul h1 hz
  have e1 : (t : Int) * n = ((t * n : Nat) : Int) := by simp
  have e2 : (t : Int) * n * z = ((t * n * z : Nat) : Int) := by simp
  rw [e2, e1]
  omega

set_option maxHeartbeats 1000000 in
theorem at_any (i n cap g tb lb t z : Nat) (r : Res) (w : World) (h1 : w.cell? ⟨tb, 0, none⟩ = some (.int .i64 t)) (h2 : w.cell? ⟨lb, 0, none⟩ = some (.slice (some ⟨g, 0, none⟩) n cap))
    (h3 : w.cell? ⟨g, i * 2, none⟩ = some (.int .i64 r.num)) (h4 : w.cell? ⟨g, i * 2 + 1, none⟩ = some (.int .i64 r.den)) (hi : i < n) (ht : t ≤ 1000000) (hr : r.num ≤ 1000000000) (hd : 1 ≤ r.den) (hz : 1 ≤ z) (hz2 : z ≤ 4096) (_hcap : n ≤ 9223372036854775807) :
    Calls Try.prog 62 #[.int .i64 i, .int .i64 z, .pointer (some ⟨tb, 0, none⟩), .pointer (some ⟨lb, 0, none⟩)] w fun e w' => e = .returned (.int .i64 (standV r t z)) ∧ ∃ k, w' = w.drewN k := by
  obtain ⟨m1, m2, m3, m4⟩ := stand_bound t r.num z ht hr hz2
  have b1 : (0 : Int) ≤ (i : Int) := by omega
  have b2 : (i : Int) < (n : Int) := by omega
  have d1 : (1 : Int) ≤ (r.den : Int) := by omega
  have d2 : ((r.den : Int) == 0) = false := by simp; omega
  have z1 : (1 : Int) ≤ (z : Int) := by omega
  have z2 : ((z : Int) == 0) = false := by simp; omega
  have q1 : 0 ≤ (t : Int) * r.num * z / r.den := Int.ediv_nonneg m4 (by omega)
  have q2 : (t : Int) * r.num * z / r.den ≤ 4096000000000000000 := Int.le_trans (Int.ediv_le_self _ m4) m3
  have HV : Hid ((t : Int) * r.num * z / r.den % z = (standV r t z : Nat)) := by unfold Hid standV; simp
  go_enter Try.func62, Try.ntmps62
  go_wp2
  go_quiet (fail)
  go_wp2
  go_ret
  exact ⟨ret_int HV.out, _, rfl⟩

theorem at_int (j : Int) (i n cap g tb lb t z : Nat) (r : Res) (w : World) (hj : j = (i : Nat)) (h1 : w.cell? ⟨tb, 0, none⟩ = some (.int .i64 t)) (h2 : w.cell? ⟨lb, 0, none⟩ = some (.slice (some ⟨g, 0, none⟩) n cap))
    (h3 : w.cell? ⟨g, i * 2, none⟩ = some (.int .i64 r.num)) (h4 : w.cell? ⟨g, i * 2 + 1, none⟩ = some (.int .i64 r.den)) (hi : i < n) (ht : t ≤ 1000000) (hr : r.num ≤ 1000000000) (hd : 1 ≤ r.den) (hz : 1 ≤ z) (hz2 : z ≤ 4096) (hcap : n ≤ 9223372036854775807) :
    Calls Try.prog 62 #[.int .i64 j, .int .i64 z, .pointer (some ⟨tb, 0, none⟩), .pointer (some ⟨lb, 0, none⟩)] w fun e w' => e = .returned (.int .i64 (standV r t z)) ∧ ∃ k, w' = w.drewN k := by
  subst hj
  exact at_any i n cap g tb lb t z r w h1 h2 h3 h4 hi ht hr hd hz hz2 hcap

def standsCells (L : List Mesh) (t k : Nat) : List Value :=
  (List.range k).flatMap fun i => [.int .i64 (standV (shaftR L i) t ((drs L).getD i 1) : Nat), .int .i64 (standV (shaftR L (i + 1)) t ((dns L).getD i 1) : Nat)]
theorem standsCells_succ (L : List Mesh) (t k : Nat) : standsCells L t (k + 1) = standsCells L t k ++ [.int .i64 (standV (shaftR L k) t ((drs L).getD k 1) : Nat), .int .i64 (standV (shaftR L (k + 1)) t ((dns L).getD k 1) : Nat)] := by
  unfold standsCells
  rw [List.range_succ, List.flatMap_append]
  rfl

def StandsPost (L : List Mesh) (t : Int) (w : World) (e : Ending) (w' : World) : Prop :=
  Below w.heap.size w w' ∧
    ((askedR L t ≠ 0 ∧ e = .returned (.tuple #[.slice none 0 0, .int .i64 (askedR L t)])) ∨
     (askedR L t = 0 ∧ ¬ shaftsOK L (L.length + 1) ∧ e = .returned (.tuple #[.slice none 0 0, .int .i64 2])) ∨
     (askedR L t = 0 ∧ shaftsOK L (L.length + 1) ∧ ∃ v, e = .returned (.tuple #[v, .int .i64 0]) ∧ w'.ownsRow w.heap.size 3 1 v (2 * L.length) (standsCells L t.toNat L.length)))

theorem asked_ok {L : List Mesh} {t : Int} (h : askedR L t = 0) : okTrain L = true ∧ 0 ≤ t ∧ t ≤ 1000000 := by
  unfold askedR at h
  split at h
  · rename_i h1
    split at h
    · rename_i h2
      simp only [inB, decide_eq_true_eq] at h2
      exact ⟨h1, h2⟩
    · omega
  · omega

/-- The row of the shafts' turns, cell by cell. -/
theorem shafts_row {w : World} {base : Nat} {v : Value} {L : List Mesh} {k : Nat} (h : w.ownsRow base 42 2 v k (shaftCells L k)) (h0 : 0 < k) :
    ∃ g cap, v = .slice (some ⟨g, 0, none⟩) k cap ∧ base ≤ g ∧ g < w.heap.size ∧ ∀ i, i < k → w.cell? ⟨g, i * 2, none⟩ = some (.int .i64 (shaftR L i).num) ∧ w.cell? ⟨g, i * 2 + 1, none⟩ = some (.int .i64 (shaftR L i).den) := by
  obtain ⟨g, cap, hv, hb, hr⟩ := own_row h h0
  refine ⟨g, cap, hv, hb, hr.1, fun i hi => ?_⟩
  have hlen : (List.range k).length = k := List.length_range
  have e1 := flat_get (fun i => [Value.int .i64 (shaftR L i).num, .int .i64 (shaftR L i).den]) 2 (fun _ => rfl) (by omega) (List.range k) i 0 (by omega) (by omega)
  have e2 := flat_get (fun i => [Value.int .i64 (shaftR L i).num, .int .i64 (shaftR L i).den]) 2 (fun _ => rfl) (by omega) (List.range k) i 1 (by omega) (by omega)
  have c1 := hr.2 (i * 2) _ (by rw [Nat.add_zero] at e1; exact e1)
  have c2 := hr.2 (i * 2 + 1) _ e2
  rw [Nat.zero_add] at c1 c2
  simpa using And.intro c1 c2

theorem shaft_fit {L : List Mesh} (hok : okTrain L = true) (h : shaftsOK L (L.length + 1)) (i : Nat) (hi : i < L.length + 1) : (shaftR L i).num ≤ 1000000000 ∧ 1 ≤ (shaftR L i).den ∧ (shaftR L i).den ≤ 1000000000 := by
  obtain ⟨k1, k2, k3⟩ := ok_train hok
  have k4 : ∀ m ∈ L.take i, m.ok = true := fun m hm => k3 m (List.mem_of_mem_take hm)
  have hp : 1 ≤ pr (dns (L.take i)) := pr_pos _ fun x hx => by
    obtain ⟨m, hm, rfl⟩ := List.mem_map.1 hx
    have := ok_mesh (k4 m hm)
    omega
  have h2 := (drs_getD k3 0).1
  have hD : 1 ≤ pr (dns (L.take i)) * (drs L).getD 0 1 := Nat.mul_le_mul hp h2
  obtain ⟨_, _, g1, g2, g3⟩ := low_ok _ _ hD (h i hi)
  exact ⟨g2, g1, g3⟩

set_option maxRecDepth 100000 in
set_option maxHeartbeats 4000000 in
theorem stands_ok (b off c : Nat) (L : List Mesh) (t : Nat) (w : World) (hL : RowAt w (some ⟨b, off, none⟩) (meshCells L)) (hc : L.length ≤ c) (hcm : c ≤ 9223372036854775807) (ha : askedR L t = 0) :
    Calls Try.prog 18 #[.agg #[.slice (some ⟨b, off, none⟩) L.length c], .int .i64 t] w (StandsPost L t w) := by
  obtain ⟨i0, hi0, hz0, hz1, hz2⟩ := info_parts intInfo
  obtain ⟨hok, ht0, ht1⟩ := asked_ok ha
  obtain ⟨k1, k2, k3⟩ := ok_train hok
  have HA := Lib.hid ha
  have HL := Lib.hid (And.intro hL (And.intro hok k3))
  clear hL hok k3 ha
  have hLn : L.length ≤ 9223372036854775807 := by omega
  go_enter Try.func18, Try.ntmps18
  go_wp2_with fail
  refine (asked_any _ _ _ _ _ ((HL.out.1.alloc _).alloc _) hLn).mono ?_
  rintro e w1 ⟨rfl, hb1⟩
  have T : Bk w1 w.heap.size 24 #[.slice (some ⟨b, off, none⟩) L.length c] := ((bk_last rfl).alloc _).keep hb1
  have S : Bk w1 (w.heap.size + 1) 3 #[.int .i64 t] := (bk_last (by simp)).keep hb1
  have hB1 : Below w.heap.size w w1 := (((Below.refl _ _).alloc (Nat.le_refl _) _).alloc (by simp) _).trans (hb1.mono (by simp; omega))
  have hz1' := hb1.size
  simp at hz1'
  clear hb1
  rw [HA.out]
  have t0 := T.cell 0
  simp at t0
  go_wp2_with fail
  refine (shafts_any _ _ _ _ _ (HL.out.1.below hB1) HL.out.2.1 hc hcm).mono ?_
  rintro e w2 ⟨hb2, ⟨hsh, v, rfl, hown⟩ | ⟨hsh, rfl⟩⟩
  · obtain ⟨g, cap, rfl, hg, hgl, hrow⟩ := shafts_row hown (by omega)
    clear t0 hown
    replace T := T.keep hb2
    replace S := S.keep hb2
    have hB2 := hB1.trans (hb2.mono hB1.size)
    have hz2' := hb2.size
    clear hb2 hB1
    have HR := Lib.hid (And.intro hrow hsh)
    clear hrow hsh
    have t0 := T.cell 0
    simp at t0
    have hlt2 := T.lt
    go_wp2
    have hBx : Below w.heap.size w (w2.alloc (Obj.cells #[Value.slice (some { block := g, off := 0 }) (L.length + 1) cap] 76)) := hB2.alloc hB2.size _
    have LB : Bk (w2.alloc (Obj.cells #[Value.slice (some { block := g, off := 0 }) (L.length + 1) cap] 76)) w2.heap.size 76 #[Value.slice (some { block := g, off := 0 }) (L.length + 1) cap] := bk_last rfl
    replace S := S.alloc (Obj.cells #[Value.slice (some { block := g, off := 0 }) (L.length + 1) cap] 76)
    have HR2 : Hid (∀ i, i < L.length + 1 → (w2.alloc (Obj.cells #[Value.slice (some { block := g, off := 0 }) (L.length + 1) cap] 76)).cell? { block := g, off := i * 2 } = some (Value.int IntKind.i64 ↑(shaftR L i).num) ∧
            (w2.alloc (Obj.cells #[Value.slice (some { block := g, off := 0 }) (L.length + 1) cap] 76)).cell? { block := g, off := i * 2 + 1 } = some (Value.int IntKind.i64 ↑(shaftR L i).den)) := fun i hi => by
      obtain ⟨h1, h2⟩ := HR.out.1 i hi
      exact ⟨(World.cell?_alloc_lt _ _ _ (by simpa using hgl)).trans h1, (World.cell?_alloc_lt _ _ _ (by simpa using hgl)).trans h2⟩
    have hWs : (w2.alloc (Obj.cells #[Value.slice (some { block := g, off := 0 }) (L.length + 1) cap] 76)).heap.size = w2.heap.size + 1 := by simp
    clear t0 T
    generalize hW : w2.alloc (Obj.cells #[Value.slice (some { block := g, off := 0 }) (L.length + 1) cap] 76) = W at *
    have HW := Lib.hid hWs
    clear hW hWs
    go_loopw [10, 31] (fun v i wr => ∃ k : Nat, k ≤ L.length ∧ i = .int .i64 k ∧ wr.ownsRow (w2.heap.size + 1) 3 1 v (2 * k) (standsCells L t k) ∧ Below W.heap.size W wr) (fun _ i _ => L.length - (intOf i).toNat)
    case atStart => exact ⟨0, Nat.zero_le _, rfl, World.ownsRow_nil _ _ _ _, Below.refl _ _⟩
    case round =>
      obtain ⟨k, hk, rfl, hown, hB⟩ := hrel
      have hBw : Below w.heap.size w wr := hBx.trans (hB.mono hBx.size)
      by_cases hlt : k < L.length
      · obtain ⟨b', off', e, hbb, hcc⟩ := (HL.out.1.below hBw).mesh (by omega)
        injection e with e
        injection e with e1 e2
        subst e1 e2
        obtain ⟨c0, c1, c2⟩ := hcc k hlt
        have hm := ok_mesh (HL.out.2.2 L[k] (List.getElem_mem _))
        have hdr : L[k].dr = ((drs L).getD k 1 : Nat) := by simp [drs, List.getD_eq_getElem?_getD, hlt]; omega
        have hdn : L[k].dn = ((dns L).getD k 1 : Nat) := by simp [dns, List.getD_eq_getElem?_getD, hlt]; omega
        have s0 := (S.keep hB).cell 0
        have l0 := (LB.keep hB).cell 0
        simp at s0 l0
        obtain ⟨x1, x2⟩ := HR2.out k (by omega)
        obtain ⟨x3, x4⟩ := HR2.out (k + 1) (by omega)
        replace x1 := keepc hB x1
        replace x2 := keepc hB x2
        replace x3 := keepc hB x3
        replace x4 := keepc hB x4
        have hsz := hB.size
        have hd1 := drs_getD HL.out.2.2 k
        have hd2 := dns_getD HL.out.2.2 k
        obtain ⟨dr, hdq⟩ : ∃ x, (drs L).getD k 1 = x := ⟨_, rfl⟩
        obtain ⟨dn, hnq⟩ : ∃ x, (dns L).getD k 1 = x := ⟨_, rfl⟩
        obtain ⟨pl, hpq⟩ : ∃ x, L[k].pl = x := ⟨_, rfl⟩
        rw [hdq] at hdr hd1
        rw [hnq] at hdn hd2
        have Hq := Lib.hid (And.intro hdq hnq)
        rw [hdr] at c0
        rw [hdn] at c1
        rw [hpq] at c2
        clear hdq hnq hpq
        obtain ⟨f1, f2, f3⟩ := shaft_fit HL.out.2.1 HR.out.2 k (by omega)
        obtain ⟨f4, f5, f6⟩ := shaft_fit HL.out.2.1 HR.out.2 (k + 1) (by omega)
        have hSd : standsCells L t (k + 1) = standsCells L t k ++ [.int .i64 (standV (shaftR L k) t dr : Nat), .int .i64 (standV (shaftR L (k + 1)) t dn : Nat)] := by
          rw [standsCells_succ, Hq.out.1, Hq.out.2]
        generalize shaftR L k = ra at *
        generalize shaftR L (k + 1) = rb at *
        have Hs := Lib.hid hSd
        clear hSd hcc hm hdr hdn
        go_wp2
        have q0 : (wr.alloc (Obj.cells #[Value.int IntKind.i64 dr, Value.int IntKind.i64 dn, Value.int IntKind.i64 pl] 36)).cell? ⟨wr.heap.size, 0, none⟩ = some (.int .i64 dr) := by simp
        have q1 : (wr.alloc (Obj.cells #[Value.int IntKind.i64 dr, Value.int IntKind.i64 dn, Value.int IntKind.i64 pl] 36)).cell? ⟨wr.heap.size, 1, none⟩ = some (.int .i64 dn) := by simp
        have hbq : Below wr.heap.size wr (wr.alloc (Obj.cells #[Value.int IntKind.i64 dr, Value.int IntKind.i64 dn, Value.int IntKind.i64 pl] 36)) := (Below.refl _ _).alloc (Nat.le_refl _) _
        replace s0 := keepc hbq s0
        replace l0 := keepc hbq l0
        replace x1 := keepc hbq x1
        replace x2 := keepc hbq x2
        replace x3 := keepc hbq x3
        replace x4 := keepc hbq x4
        replace hown := own_keep hown hbq
        have hBW : Below W.heap.size W (wr.alloc (Obj.cells #[Value.int IntKind.i64 dr, Value.int IntKind.i64 dn, Value.int IntKind.i64 pl] 36)) := hB.alloc hB.size _
        clear hbq hB hBw hbb c0 c1 c2
        generalize wr.alloc (Obj.cells #[Value.int IntKind.i64 dr, Value.int IntKind.i64 dn, Value.int IntKind.i64 pl] 36) = V at *
        refine wp_region_extpre 1 12 (by kernel_rfl) (by kernel_rfl) (fun _ _ d _ _ h => by cases d <;> exact h) ?_
        simp only [List.take_succ_cons, List.take_zero, List.drop_succ_cons, List.drop_zero]
        have F1 := fun x : Ext V => keepc x.bel q0
        have F2 := fun x : Ext V => keepc x.bel q1
        have F3 := fun x : Ext V => keepc x.bel s0
        have F4 := fun x : Ext V => keepc x.bel l0
        have F5 := fun x : Ext V => keepc x.bel x1
        have F6 := fun x : Ext V => keepc x.bel x2
        have F7 := fun x : Ext V => keepc x.bel x3
        have F8 := fun x : Ext V => keepc x.bel x4
        clear s0 l0 x1 x2 x3 x4 q0 q1
        repeat (go_big_quiet_step ((go_at_call 62; first | exact ext_drew (at_any _ _ _ _ _ _ _ _ _ _ (F3 _) (F4 _) (F5 _) (F6 _) (by omega) (by omega) (by omega) (by omega) (by omega) (by omega) (by omega)) | exact ext_drew (at_int _ (k + 1) _ _ _ _ _ _ _ _ _ (by omega) (F3 _) (F4 _) (F7 _) (F8 _) (by omega) (by omega) (by omega) (by omega) (by omega) (by omega) (by omega)))))
        refine wpQuiet_nil ?_
        rintro _ ⟨x, rfl⟩
        clear F1 F2 F3 F4 F5 F6 F7 F8
        have hb3 := x.bel
        generalize x.w = w3 at hb3 ⊢
        replace hown := own_keep hown hb3
        replace hBW := hBW.trans (hb3.mono hBW.size)
        clear hb3
        generalize standV ra t dr = sa at *
        generalize standV rb t dn = sb at *
        have hs3 : w2.heap.size + 1 ≤ w3.heap.size := by have := hBW.size; rw [HW.out] at this; exact this
        have E1 : 2 * k + 2 ≤ maxLen := by unfold maxLen; omega
        have E2 : (2 * k + 2) * 8 ≤ 140737488355328 := by omega
        have E := Lib.hid (And.intro E1 E2)
        clear E1 E2
        go_wp2_with (at_builtin; refine wpList_append_own _ rfl _ _ 27 rfl (w2.heap.size + 1) 3 i0 _ 1 8 Try.underlying27 hi0 hz0 hz1 hz2 rfl (by decide) _ _ _ rfl (hown.alloc _) ⟨w3.heap.size, 0, none⟩ 2 2 [.int .i64 sa, .int .i64 sb] rfl rfl (two_at _ _ _ _ _ (by simp)) (by simp [Value.oneCell']) E.out.1 E.out.2 (by simp; omega) ?_; intro v' w4 hown' hg _)
        have hg' : (w3.alloc (Obj.cells #[Value.int IntKind.i64 sa, Value.int IntKind.i64 sb] 3)).grownBy w4 u10.ownBlock := hg
        clear hg
        go_roundw
        case rel => exact ⟨k + 1, by omega, by go_num, by rw [Hs.out]; exact hown', (hBW.alloc hBW.size _).grown hg' (by have := hBW.size; simp; omega) (fun g hg => by have := (hown.lt g hg).1; rw [HW.out]; exact this)⟩
        case measure => simp [intOf]; omega
      · have : k = L.length := by omega
        subst this
        go_wp2
        go_ret2
        exact ⟨hBw, .inr (.inr ⟨HA.out, HR.out.2, _, rfl, own_base hown (by omega)⟩)⟩
  · go_wp2_with fail
    go_ret2
    exact ⟨(hB1.trans (hb2.mono hB1.size)).alloc (by have := hB1.size; have := hb2.size; omega) _, .inr (.inl ⟨HA.out, hsh, rfl⟩)⟩

/-- gears.Stands. -/
theorem stands_any (A : Option Addr) (c : Nat) (L : List Mesh) (t : Int) (w : World) (hL : RowAt w A (meshCells L)) (hc : L.length ≤ c) (hcm : c ≤ 9223372036854775807) :
    Calls Try.prog 18 #[.agg #[.slice A L.length c], .int .i64 t] w (StandsPost L t w) := by
  by_cases ha : askedR L t = 0
  · obtain ⟨hok, ht0, ht1⟩ := asked_ok ha
    obtain ⟨k1, _, _⟩ := ok_train hok
    obtain ⟨b, off, rfl, _⟩ := hL (by rw [meshCells_len]; omega)
    obtain ⟨t', rfl⟩ := Int.eq_ofNat_of_zero_le ht0
    exact stands_ok b off c L t' w hL hc hcm ha
  · have HA := Lib.hid ha
    clear ha
    go_enter Try.func18, Try.ntmps18
    go_wp2_with fail
    refine (asked_any _ _ _ _ _ ((hL.alloc _).alloc _) (by omega)).mono ?_
    rintro e w1 ⟨rfl, hb1⟩
    have hb2 : Below w.heap.size w w1 := (((Below.refl _ _).alloc (Nat.le_refl _) _).alloc (by simp) _).trans (hb1.mono (by simp; omega))
    have hne : ((askedR L t) == 0) = false := by simpa using HA.out
    clear hb1
    go_wp2
    go_ret2
    exact ⟨hb2, .inl ⟨HA.out, rfl⟩⟩

end Go.Proofs.Ytheifigkclegdaa
