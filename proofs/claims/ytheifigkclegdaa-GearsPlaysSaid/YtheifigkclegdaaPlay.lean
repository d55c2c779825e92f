/-
  What is proved: the contract of gears.Play.
-/
import Derived.Test.YtheifigkclegdaaPeriod
import Derived.Deep.RegionHeld3
namespace Go.Proofs.Ytheifigkclegdaa
open Go.RowKit
attribute [local go_sem] Res.val

/-- The play behind one more mesh. -/
def playStep (p : Res) (m : Mesh) : Res :=
  if (low (p.num * m.dr.toNat) (p.den * m.dn.toNat)).err = 0 then
    plusR (low (p.num * m.dr.toNat) (p.den * m.dn.toNat)).num (low (p.num * m.dr.toNat) (p.den * m.dn.toNat)).den (low m.pl.toNat (1000 * m.dn.toNat)).num (low m.pl.toNat (1000 * m.dn.toNat)).den
  else ⟨0, 0, 2⟩
def playGo : List Mesh → Res → Res
  | [], p => p
  | m :: ms, p => if (playStep p m).err = 0 then playGo ms (playStep p m) else ⟨0, 0, (playStep p m).err⟩
def playR (L : List Mesh) : Res := if okTrain L then playGo L ⟨0, 1, 0⟩ else ⟨0, 0, 70⟩

theorem plus_bounds {a b c d : Int} (h : (plusR a b c d).err = 0) : (plusR a b c d).num ≤ 1000000000 ∧ 1 ≤ (plusR a b c d).den ∧ (plusR a b c d).den ≤ 1000000000 := by
  unfold plusR at h ⊢
  split at h
  · rename_i hr
    rw [if_pos hr]
    simp only [Bool.and_eq_true] at hr
    have h1 := okRatio_bounds hr.1
    have h2 := okRatio_bounds hr.2
    have hD : 1 ≤ b.toNat * d.toNat := Nat.mul_le_mul (show 1 ≤ b.toNat by omega) (show 1 ≤ d.toNat by omega)
    obtain ⟨_, _, g1, g2, g3⟩ := low_ok _ _ hD h
    exact ⟨g2, g1, g3⟩
  · cases h

/-- One round of the play. -/
def PlayRound (L : List Mesh) (k : Nat) (lo pr M : Res) : Prop :=
  (lo.err ≠ 0 → M = ⟨0, 0, 2⟩) ∧ (lo.err = 0 → pr.err ≠ 0 → M = ⟨0, 0, pr.err⟩) ∧ (lo.err = 0 → pr.err = 0 → playGo (L.drop (k + 1)) pr = M) ∧ (pr.err = 0 → pr.num ≤ 1000000000 ∧ 1 ≤ pr.den ∧ pr.den ≤ 1000000000)

theorem play_step {L : List Mesh} {k : Nat} {p M : Res} (hk : k < L.length) (h : playGo (L.drop k) p = M) :
    PlayRound L k (low (p.num * L[k].dr.toNat) (p.den * L[k].dn.toNat)) (plusR (low (p.num * L[k].dr.toNat) (p.den * L[k].dn.toNat)).num (low (p.num * L[k].dr.toNat) (p.den * L[k].dn.toNat)).den (low L[k].pl.toNat (1000 * L[k].dn.toNat)).num (low L[k].pl.toNat (1000 * L[k].dn.toNat)).den) M := by
  rw [List.drop_eq_getElem_cons hk] at h
  unfold playGo playStep at h
  refine ⟨fun h1 => ?_, fun h1 h2 => ?_, fun h1 h2 => ?_, fun h2 => plus_bounds h2⟩
  · rw [if_neg h1] at h
    simpa using h.symm
  · rw [if_pos h1, if_neg h2] at h
    exact h.symm
  · rw [if_pos h1, if_pos h2] at h
    exact h

theorem keepa {W : World} {b o : Nat} {v : Value} {x : Obj} (h : W.cell? ⟨b, o, none⟩ = some v) : (W.alloc x).cell? ⟨b, o, none⟩ = some v := keepc ((Below.refl _ _).alloc (Nat.le_refl _) _) h
theorem keepaa {W : World} {b o : Nat} {v : Value} {x y : Obj} (hb : b < W.heap.size) (h : (W.alloc x).cell? ⟨b, o, none⟩ = some v) : (W.alloc y).cell? ⟨b, o, none⟩ = some v := by
  have h1 : W.cell? ⟨b, o, none⟩ = some v := (World.cell?_alloc_lt _ _ _ (by simpa using hb)).symm.trans h
  exact keepa h1
theorem keeps {W : World} {b o : Nat} {v u : Value} {p : Addr} (hp : p.block ≠ b) (h : W.cell? ⟨b, o, none⟩ = some v) : (W.setCell p u).cell? ⟨b, o, none⟩ = some v := by
  have e : (W.setCell p u).heap[b]? = W.heap[b]? := Below.heap_setCell W p u b (Ne.symm hp)
  have := (Below.refl 0 W)
  rw [← h]
  unfold World.cell?
  simp only [e]

set_option maxRecDepth 100000 in
set_option maxHeartbeats 8000000 in
theorem play_ok (b off c : Nat) (L : List Mesh) (w : World) (hL : RowAt w (some ⟨b, off, none⟩) (meshCells L)) (_hc : L.length ≤ c) (_hcm : c ≤ 9223372036854775807) (hok : okTrain L = true) :
    Calls Try.prog 24 #[.agg #[.slice (some ⟨b, off, none⟩) L.length c]] w fun e w' => e = .returned (playGo L ⟨0, 1, 0⟩).val ∧ Below w.heap.size w w' := by
  obtain ⟨k1, k2, k3⟩ := ok_train hok
  have HL := Lib.hid (And.intro hL (And.intro hok k3))
  clear hL hok k3
  have hLn : L.length ≤ 9223372036854775807 := by omega
  generalize hM : playGo L ⟨0, 1, 0⟩ = M
  have HM : Hid (playGo (L.drop 0) ⟨0, 1, 0⟩ = M) := hM
  clear hM
  go_enter Try.func24, Try.ntmps24
  go_wp2_with fail
  refine (validTrain_any _ _ _ _ ((HL.out.1.alloc _).alloc _) hLn).mono ?_
  rintro e w1 ⟨rfl, hb1⟩
  have T : Bk w1 w.heap.size 24 #[.slice (some ⟨b, off, none⟩) L.length c] := ((bk_last rfl).alloc _).keep hb1
  have E : Bk w1 (w.heap.size + 1) 42 #[.int .i64 0, .int .i64 0] := (bk_last (by simp)).keep hb1
  have hB1 : Below w.heap.size w w1 := (((Below.refl _ _).alloc (Nat.le_refl _) _).alloc (by simp) _).trans (hb1.mono (by simp; omega))
  have hz1 := hb1.size
  simp at hz1
  clear hb1
  rw [HL.out.2.1]
  have t0 := T.cell 0
  simp at t0
  have hlt1 := T.lt
  go_wp2
  have hP : Bk (w1.alloc (Obj.cells #[Value.int IntKind.i64 0, Value.int IntKind.i64 1] 42)) w1.heap.size 42 #[.int .i64 (0 : Nat), .int .i64 (1 : Nat)] := bk_last rfl
  have hWB : Below w.heap.size w (w1.alloc (Obj.cells #[Value.int IntKind.i64 0, Value.int IntKind.i64 1] 42)) := hB1.alloc hB1.size _
  replace E := E.alloc (Obj.cells #[Value.int IntKind.i64 0, Value.int IntKind.i64 1] 42)
  clear T t0 hB1
  generalize w1.alloc (Obj.cells #[Value.int IntKind.i64 0, Value.int IntKind.i64 1] 42) = W at *
  go_loopw [19] (fun i wr => ∃ k n d : Nat, k ≤ L.length ∧ i = .int .i64 k ∧ n ≤ 1000000000 ∧ 1 ≤ d ∧ d ≤ 1000000000 ∧ Below w.heap.size w wr ∧ Bk wr (w.heap.size + 1) 42 #[.int .i64 0, .int .i64 0] ∧ Bk wr w1.heap.size 42 #[.int .i64 n, .int .i64 d] ∧ Hid (playGo (L.drop k) ⟨n, d, 0⟩ = M)) (fun i _ => L.length - (intOf i).toNat)
  case atStart => exact ⟨0, 0, 1, Nat.zero_le _, rfl, by omega, by omega, by omega, hWB, E, hP, HM⟩
  case round =>
    obtain ⟨k, n, d, hk, rfl, hn, hd1, hd2, hB, E, P, hQ⟩ := hrel
    by_cases hlt : k < L.length
    · obtain ⟨b', off', e, hbb, hcc⟩ := (HL.out.1.below hB).mesh (by omega)
      injection e with e
      injection e with e1 e2
      subst e1 e2
      obtain ⟨c0, c1, c2⟩ := hcc k hlt
      have hm := ok_mesh (HL.out.2.2 L[k] (List.getElem_mem _))
      have hS := play_step hlt hQ.out
      clear hcc hQ
      generalize L[k] = m at *
      obtain ⟨mr, mn, mp⟩ := m
      simp only at c0 c1 c2 hm
      obtain ⟨r, rfl⟩ := Int.eq_ofNat_of_zero_le (show 0 ≤ mr by omega)
      obtain ⟨s, rfl⟩ := Int.eq_ofNat_of_zero_le (show 0 ≤ mn by omega)
      obtain ⟨q, rfl⟩ := Int.eq_ofNat_of_zero_le (show 0 ≤ mp by omega)
      simp only [Int.toNat_natCast] at hS
      have hlo := low_err (n * r) (d * s)
      have HP : Hid (∀ (W : World) (g : Nat), g < W.heap.size → W.cell? ⟨g, 0, none⟩ = some (.int .i64 n) → W.cell? ⟨g, 1, none⟩ = some (.int .i64 d) → W.cell? ⟨g, 2, none⟩ = some (.int .i64 r) → W.cell? ⟨g, 3, none⟩ = some (.int .i64 s) →
          Calls Try.prog 71 #[.slice (some ⟨g, 0, none⟩) 2 2] W fun e w' => e = .returned (low (n * r) (d * s)).val ∧ Below W.heap.size W w') :=
        fun W g hg h1 h2 h3 h4 => product2_any g 2 n d r s W hg h1 h2 h3 h4 (by omega) (by omega) (by omega) (by omega) (by omega) (by omega)
      have HO : Hid (∀ (W : World) (g : Nat), g < W.heap.size → W.cell? ⟨g, 0, none⟩ = some (.int .i64 q) → W.cell? ⟨g, 1, none⟩ = some (.int .i64 (1000 * (s : Int))) →
          Calls Try.prog 71 #[.slice (some ⟨g, 0, none⟩) 1 1] W fun e w' => e = .returned (low q (1000 * s)).val ∧ Below W.heap.size W w') :=
        fun W g hg h1 h2 => product1_any g 1 q (1000 * s) W hg h1 (by rw [h2]; simp) (by omega) (by omega) (by omega)
      generalize low (n * r) (d * s) = lo at hS HP hlo
      generalize low q (1000 * s) = ow at hS HO
      have HA : Hid (∀ W : World, Calls Try.prog 36 #[.agg #[.int .i64 lo.num, .int .i64 lo.den], .agg #[.int .i64 ow.num, .int .i64 ow.den]] W fun e w' => e = .returned (plusR lo.num lo.den ow.num ow.den).val ∧ Below W.heap.size W w') := fun W => plus_any _ _ _ _ W
      generalize plusR lo.num lo.den ow.num ow.den = pn at hS HA
      obtain ⟨ln, ld, le⟩ := lo
      obtain ⟨on, od, oe⟩ := ow
      obtain ⟨pN, pD, pE⟩ := pn
      have HS := Lib.hid (And.intro hS hlo)
      clear hS hlo
      have hsz := hB.size
      have p0 := P.cell 0
      have p1 := P.cell 1
      simp at p0 p1
      have hPl := P.lt
      have hEl := E.lt
      go_wp2
      have Mb : Bk (wr.alloc (Obj.cells #[Value.int IntKind.i64 r, Value.int IntKind.i64 s, Value.int IntKind.i64 q] 36)) wr.heap.size 36 #[.int .i64 r, .int .i64 s, .int .i64 q] := bk_last rfl
      replace hB := hB.alloc hB.size (Obj.cells #[Value.int IntKind.i64 r, Value.int IntKind.i64 s, Value.int IntKind.i64 q] 36)
      replace E := E.alloc (Obj.cells #[Value.int IntKind.i64 r, Value.int IntKind.i64 s, Value.int IntKind.i64 q] 36)
      replace P := P.alloc (Obj.cells #[Value.int IntKind.i64 r, Value.int IntKind.i64 s, Value.int IntKind.i64 q] 36)
      clear p0 p1 c0 c1 c2
      generalize wr.alloc (Obj.cells #[Value.int IntKind.i64 r, Value.int IntKind.i64 s, Value.int IntKind.i64 q] 36) = V at *
      have p0 := P.cell 0
      have p1 := P.cell 1
      have m0 := Mb.cell 0
      have m1 := Mb.cell 1
      simp at p0 p1 m0 m1
      have hPV := P.lt
      have hMV := Mb.lt
      go_region_held3 (fun w' => w'.cell? ⟨w1.heap.size, 0, none⟩ = some (.int .i64 n) ∧ w'.cell? ⟨w1.heap.size, 1, none⟩ = some (.int .i64 d) ∧ w'.cell? ⟨wr.heap.size, 0, none⟩ = some (.int .i64 r) ∧ w'.cell? ⟨wr.heap.size, 1, none⟩ = some (.int .i64 s))
        (first
          | go_keep
          | (go_split_ands; exact ⟨keepc hb3 ‹_›, keepc hb3 ‹_›, keepc hb3 ‹_›, keepc hb3 ‹_›⟩)
          | (go_split_ands; exact ⟨keepc hb4 ‹_›, keepc hb4 ‹_›, keepc hb4 ‹_›, keepc hb4 ‹_›⟩)
          | (go_split_ands; exact ⟨keepa ‹_›, keepa ‹_›, keepa ‹_›, keepa ‹_›⟩)
          | (go_split_ands; exact ⟨keeps (by first | omega | (simp; omega)) (keeps (by first | omega | (simp; omega)) ‹_›), keeps (by first | omega | (simp; omega)) (keeps (by first | omega | (simp; omega)) ‹_›), keeps (by first | omega | (simp; omega)) (keeps (by first | omega | (simp; omega)) ‹_›), keeps (by first | omega | (simp; omega)) (keeps (by first | omega | (simp; omega)) ‹_›)⟩)
          | (go_split_ands; exact ⟨keepaa (by omega) ‹_›, keepaa (by omega) ‹_›, keepaa (by omega) ‹_›, keepaa (by omega) ‹_›⟩)
          | (trace_state; fail))
        (first
          | (go_at_call 72; refine (of_any _ _ _).mono ?_; rintro e w3 ⟨rfl, hb3⟩; have hs3 := hb3.size; simp at hs3; have hQ : Bk w3 V.heap.size 42 #[.int .i64 0, .int .i64 0] := Bk.keep (Bk.drew (bk_last rfl)) hb3)
          | (go_at_call 72; refine (of_any _ _ _).mono ?_; rintro e w3 ⟨rfl, hb3⟩; have hs3 := hb3.size; simp at hs3)
          | (go_at_call 71; refine (HP.out _ _ (by first | (simp; done) | (simp; omega)) (by simp [go_sem]) (by simp [go_sem]) (by simp [go_sem]) (by simp [go_sem])).mono ?_; rintro e w4 ⟨rfl, hb4⟩; have hs4 := hb4.size; simp at hs4; have hQ4 : Bk w4 V.heap.size 42 #[.int .i64 0, .int .i64 0] := Bk.keep (hQ.alloc _) hb4; have q0 := hQ4.cell 0; have q1 := hQ4.cell 1; have f0 := hQ4.fz 0; have f1 := hQ4.fz 1; simp at q0 q1)
          | (go_at_call 71; refine (HP.out _ _ (by first | (simp; done) | (simp; omega)) (by simp [go_sem]) (by simp [go_sem]) (by simp [go_sem]) (by simp [go_sem])).mono ?_; rintro e w4 ⟨rfl, hb4⟩; have hs4 := hb4.size; simp at hs4; have hQ4 : Bk w4 w3.heap.size 42 #[.int .i64 0, .int .i64 0] := Bk.keep ((bk_last rfl).alloc _) hb4; have q0 := hQ4.cell 0; have q1 := hQ4.cell 1; have f0 := hQ4.fz 0; have f1 := hQ4.fz 1; simp at q0 q1)
          | (go_at_call 71; refine (HP.out _ _ (by first | (simp; done) | (simp; omega)) (by simp [go_sem]) (by simp [go_sem]) (by simp [go_sem]) (by simp [go_sem])).mono ?_; rintro e w4 ⟨rfl, hb4⟩; have hs4 := hb4.size; simp at hs4; have hQ4 : Bk w4 (w3.heap.size + 1) 42 #[.int .i64 0, .int .i64 0] := Bk.keep (bk_last (by simp)) hb4; have q0 := hQ4.cell 0; have q1 := hQ4.cell 1; have f0 := hQ4.fz 0; have f1 := hQ4.fz 1; simp at q0 q1)
          | (go_at_call 71; refine (HP.out _ _ (by first | (simp; done) | (simp; omega)) (by simp [go_sem]) (by simp [go_sem]) (by simp [go_sem]) (by simp [go_sem])).mono ?_; rintro e w4 ⟨rfl, hb4⟩; have hs4 := hb4.size; simp at hs4))
      all_goals
        have h1 : Below V.heap.size V w3 := by
          first
            | exact ((Below.refl _ _).drew).trans hb3
            | exact (((Below.refl _ _).alloc (Nat.le_refl _) _).drew).trans (hb3.mono (by simp))
        have h2 : Below w3.heap.size w3 w4 := by
          first
            | exact ((Below.refl _ _).alloc (Nat.le_refl _) _).trans (hb4.mono (by simp))
            | exact (((Below.refl _ _).alloc (Nat.le_refl _) _).alloc (by simp) _).trans (hb4.mono (by simp; omega))
        have P4 := (P.keep h1).keep h2
        have E4 := (E.keep h1).keep h2
        have M4 := (Mb.keep h1).keep h2
        have hB4 := (hB.trans (h1.mono hB.size)).trans (h2.mono (hB.trans (h1.mono hB.size)).size)
        have hz4 := hB4.size
        have hEV := E.lt
        clear hb3 hb4 h1 h2 P E Mb hB
      · have Q : Bk (w4.alloc (Obj.cells #[Value.int IntKind.i64 ln, Value.int IntKind.i64 ld] 42)) w4.heap.size 42 #[.int .i64 ln, .int .i64 ld] := bk_last rfl
        replace P4 := P4.alloc (Obj.cells #[Value.int IntKind.i64 ln, Value.int IntKind.i64 ld] 42)
        replace E4 := E4.alloc (Obj.cells #[Value.int IntKind.i64 ln, Value.int IntKind.i64 ld] 42)
        replace M4 := M4.alloc (Obj.cells #[Value.int IntKind.i64 ln, Value.int IntKind.i64 ld] 42)
        replace hB4 := hB4.alloc hB4.size (Obj.cells #[Value.int IntKind.i64 ln, Value.int IntKind.i64 ld] 42)
        generalize w4.alloc (Obj.cells #[Value.int IntKind.i64 ln, Value.int IntKind.i64 ld] 42) = W5 at *
        generalize w4.heap.size = g7 at *
        have m1 := M4.cell 1
        have m2 := M4.cell 2
        have e0 := E4.cell 0
        have e1 := E4.cell 1
        have e2 := E4.fz 0
        have e3 := E4.fz 1
        simp at m1 m2 e0 e1
        have hQl := Q.lt
        have hEl5 := E4.lt
        rcases HS.out.2 with he | he
        · subst he
          clear e0 e1 e2 e3
          go_wp2_with fail
          refine (HO.out _ _ (by first | (simp; done) | (simp; omega)) (by simp [go_sem]) (by simp [go_sem])).mono ?_
          rintro e w6 ⟨rfl, hb6⟩
          have h6 : Below W5.heap.size W5 w6 := ((Below.refl _ _).alloc (Nat.le_refl _) _).trans (hb6.mono (by simp))
          replace P4 := P4.keep h6
          replace E4 := E4.keep h6
          replace Q := Q.keep h6
          replace hB4 := hB4.trans (h6.mono hB4.size)
          clear hb6 h6 m1 m2
          have q0 := Q.cell 0
          have q1 := Q.cell 1
          simp at q0 q1
          have hQl6 := Q.lt
          go_wp2_with fail
          refine (HA.out _).mono ?_
          rintro e w7 ⟨rfl, hb7⟩
          have h7 : Below w6.heap.size w6 w7 := ((Below.refl _ _).alloc (Nat.le_refl _) _).trans (hb7.mono (by simp))
          replace P4 := P4.keep h7
          replace E4 := E4.keep h7
          replace hB4 := hB4.trans (h7.mono hB4.size)
          clear hb7 h7 q0 q1
          have p0 := P4.cell 0
          have p1 := P4.cell 1
          have p2 := P4.fz 0
          have p3 := P4.fz 1
          have e0 := E4.cell 0
          have e1 := E4.cell 1
          have e2 := E4.fz 0
          have e3 := E4.fz 1
          simp at p0 p1 e0 e1
          have hne : w1.heap.size ≠ w.heap.size + 1 := by omega
          by_cases hpe : pE = 0
          · subst hpe
            have HN := Lib.hid (HS.out.1.2.2.1 rfl rfl)
            have hbd := HS.out.1.2.2.2 rfl
            simp only at hbd
            go_wp2_with fail
            go_roundw
            case rel => exact ⟨k + 1, pN, pD, by omega, by go_num, hbd.1, hbd.2.1, hbd.2.2, (hB4.setCell (by simp; omega) _).setCell (by simp; omega) _, (E4.far (by simp; omega) _).far (by simp; omega) _, by simpa using (P4.put 0 (.int .i64 pN)).put 1 (.int .i64 pD), HN⟩
            case measure => simp [intOf]; omega
          · have hM := HS.out.1.2.1 rfl hpe
            subst hM
            have hpe1 : ((pE : Int) == 0) = false := by simp; omega
            go_wp2_with fail
            refine bodyPost_ret (v := (⟨0, 0, pE⟩ : Res).val) (by simp [results, Try.results24, go_sem, e0, e1]) rfl ⟨rfl, (((hB4.setCell (by simp; omega) _).setCell (by simp; omega) _).setCell (by simp) _).setCell (by simp) _⟩
        · injection he with he1 he2 he3
          subst he1 he2 he3
          have hM := HS.out.1.1 (by simp)
          subst hM
          go_wp2_with fail
          refine bodyPost_ret (v := (⟨0, 0, 2⟩ : Res).val) (by simp [results, Try.results24, go_sem, e0, e1]) rfl ⟨rfl, (hB4.setCell (by simp) _).setCell (by simp) _⟩
      · have Q := (hQ4.put 0 (.int .i64 ln)).put 1 (.int .i64 ld)
        simp at Q
        have hg7 : V.heap.size ≤ w3.heap.size + 1 := by omega
        replace P4 := (P4.far (p := ⟨w3.heap.size + 1, 0, none⟩) (by simp; omega) (.int .i64 ln)).far (p := ⟨w3.heap.size + 1, 1, none⟩) (by simp; omega) (.int .i64 ld)
        replace E4 := (E4.far (p := ⟨w3.heap.size + 1, 0, none⟩) (by simp; omega) (.int .i64 ln)).far (p := ⟨w3.heap.size + 1, 1, none⟩) (by simp; omega) (.int .i64 ld)
        replace M4 := (M4.far (p := ⟨w3.heap.size + 1, 0, none⟩) (by simp; omega) (.int .i64 ln)).far (p := ⟨w3.heap.size + 1, 1, none⟩) (by simp; omega) (.int .i64 ld)
        replace hB4 := (hB4.setCell (p := ⟨w3.heap.size + 1, 0, none⟩) (by simp; omega) (.int .i64 ln)).setCell (p := ⟨w3.heap.size + 1, 1, none⟩) (by simp; omega) (.int .i64 ld)
        clear q0 q1 f0 f1 hQ4
        generalize (w4.setCell ⟨w3.heap.size + 1, 0, none⟩ (.int .i64 ln)).setCell ⟨w3.heap.size + 1, 1, none⟩ (.int .i64 ld) = W5 at *
        have m1 := M4.cell 1
        have m2 := M4.cell 2
        have e0 := E4.cell 0
        have e1 := E4.cell 1
        have e2 := E4.fz 0
        have e3 := E4.fz 1
        simp at m1 m2 e0 e1
        have hQl := Q.lt
        have hEl5 := E4.lt
        rcases HS.out.2 with he | he
        · subst he
          clear e0 e1 e2 e3
          go_wp2_with fail
          refine (HO.out _ _ (by first | (simp; done) | (simp; omega)) (by simp [go_sem]) (by simp [go_sem])).mono ?_
          rintro e w6 ⟨rfl, hb6⟩
          have h6 : Below W5.heap.size W5 w6 := ((Below.refl _ _).alloc (Nat.le_refl _) _).trans (hb6.mono (by simp))
          replace P4 := P4.keep h6
          replace E4 := E4.keep h6
          replace Q := Q.keep h6
          replace hB4 := hB4.trans (h6.mono hB4.size)
          clear hb6 h6 m1 m2
          have q0 := Q.cell 0
          have q1 := Q.cell 1
          simp at q0 q1
          have hQl6 := Q.lt
          go_wp2_with fail
          refine (HA.out _).mono ?_
          rintro e w7 ⟨rfl, hb7⟩
          have h7 : Below w6.heap.size w6 w7 := ((Below.refl _ _).alloc (Nat.le_refl _) _).trans (hb7.mono (by simp))
          replace P4 := P4.keep h7
          replace E4 := E4.keep h7
          replace hB4 := hB4.trans (h7.mono hB4.size)
          clear hb7 h7 q0 q1
          have p0 := P4.cell 0
          have p1 := P4.cell 1
          have p2 := P4.fz 0
          have p3 := P4.fz 1
          have e0 := E4.cell 0
          have e1 := E4.cell 1
          have e2 := E4.fz 0
          have e3 := E4.fz 1
          simp at p0 p1 e0 e1
          have hne : w1.heap.size ≠ w.heap.size + 1 := by omega
          by_cases hpe : pE = 0
          · subst hpe
            have HN := Lib.hid (HS.out.1.2.2.1 rfl rfl)
            have hbd := HS.out.1.2.2.2 rfl
            simp only at hbd
            go_wp2_with fail
            go_roundw
            case rel => exact ⟨k + 1, pN, pD, by omega, by go_num, hbd.1, hbd.2.1, hbd.2.2, (hB4.setCell (by simp; omega) _).setCell (by simp; omega) _, (E4.far (by simp; omega) _).far (by simp; omega) _, by simpa using (P4.put 0 (.int .i64 pN)).put 1 (.int .i64 pD), HN⟩
            case measure => simp [intOf]; omega
          · have hM := HS.out.1.2.1 rfl hpe
            subst hM
            have hpe1 : ((pE : Int) == 0) = false := by simp; omega
            go_wp2_with fail
            refine bodyPost_ret (v := (⟨0, 0, pE⟩ : Res).val) (by simp [results, Try.results24, go_sem, e0, e1]) rfl ⟨rfl, (((hB4.setCell (by simp; omega) _).setCell (by simp; omega) _).setCell (by simp) _).setCell (by simp) _⟩
        · injection he with he1 he2 he3
          subst he1 he2 he3
          have hM := HS.out.1.1 (by simp)
          subst hM
          go_wp2_with fail
          refine bodyPost_ret (v := (⟨0, 0, 2⟩ : Res).val) (by simp [results, Try.results24, go_sem, e0, e1]) rfl ⟨rfl, (hB4.setCell (by simp) _).setCell (by simp) _⟩
      · have Q := (hQ4.put 0 (.int .i64 ln)).put 1 (.int .i64 ld)
        simp at Q
        have hg7 : V.heap.size ≤ w3.heap.size := by omega
        replace P4 := (P4.far (p := ⟨w3.heap.size, 0, none⟩) (by simp; omega) (.int .i64 ln)).far (p := ⟨w3.heap.size, 1, none⟩) (by simp; omega) (.int .i64 ld)
        replace E4 := (E4.far (p := ⟨w3.heap.size, 0, none⟩) (by simp; omega) (.int .i64 ln)).far (p := ⟨w3.heap.size, 1, none⟩) (by simp; omega) (.int .i64 ld)
        replace M4 := (M4.far (p := ⟨w3.heap.size, 0, none⟩) (by simp; omega) (.int .i64 ln)).far (p := ⟨w3.heap.size, 1, none⟩) (by simp; omega) (.int .i64 ld)
        replace hB4 := (hB4.setCell (p := ⟨w3.heap.size, 0, none⟩) (by simp; omega) (.int .i64 ln)).setCell (p := ⟨w3.heap.size, 1, none⟩) (by simp; omega) (.int .i64 ld)
        clear q0 q1 f0 f1 hQ4
        generalize (w4.setCell ⟨w3.heap.size, 0, none⟩ (.int .i64 ln)).setCell ⟨w3.heap.size, 1, none⟩ (.int .i64 ld) = W5 at *
        have m1 := M4.cell 1
        have m2 := M4.cell 2
        have e0 := E4.cell 0
        have e1 := E4.cell 1
        have e2 := E4.fz 0
        have e3 := E4.fz 1
        simp at m1 m2 e0 e1
        have hQl := Q.lt
        have hEl5 := E4.lt
        rcases HS.out.2 with he | he
        · subst he
          clear e0 e1 e2 e3
          go_wp2_with fail
          refine (HO.out _ _ (by first | (simp; done) | (simp; omega)) (by simp [go_sem]) (by simp [go_sem])).mono ?_
          rintro e w6 ⟨rfl, hb6⟩
          have h6 : Below W5.heap.size W5 w6 := ((Below.refl _ _).alloc (Nat.le_refl _) _).trans (hb6.mono (by simp))
          replace P4 := P4.keep h6
          replace E4 := E4.keep h6
          replace Q := Q.keep h6
          replace hB4 := hB4.trans (h6.mono hB4.size)
          clear hb6 h6 m1 m2
          have q0 := Q.cell 0
          have q1 := Q.cell 1
          simp at q0 q1
          have hQl6 := Q.lt
          go_wp2_with fail
          refine (HA.out _).mono ?_
          rintro e w7 ⟨rfl, hb7⟩
          have h7 : Below w6.heap.size w6 w7 := ((Below.refl _ _).alloc (Nat.le_refl _) _).trans (hb7.mono (by simp))
          replace P4 := P4.keep h7
          replace E4 := E4.keep h7
          replace hB4 := hB4.trans (h7.mono hB4.size)
          clear hb7 h7 q0 q1
          have p0 := P4.cell 0
          have p1 := P4.cell 1
          have p2 := P4.fz 0
          have p3 := P4.fz 1
          have e0 := E4.cell 0
          have e1 := E4.cell 1
          have e2 := E4.fz 0
          have e3 := E4.fz 1
          simp at p0 p1 e0 e1
          have hne : w1.heap.size ≠ w.heap.size + 1 := by omega
          by_cases hpe : pE = 0
          · subst hpe
            have HN := Lib.hid (HS.out.1.2.2.1 rfl rfl)
            have hbd := HS.out.1.2.2.2 rfl
            simp only at hbd
            go_wp2_with fail
            go_roundw
            case rel => exact ⟨k + 1, pN, pD, by omega, by go_num, hbd.1, hbd.2.1, hbd.2.2, (hB4.setCell (by simp; omega) _).setCell (by simp; omega) _, (E4.far (by simp; omega) _).far (by simp; omega) _, by simpa using (P4.put 0 (.int .i64 pN)).put 1 (.int .i64 pD), HN⟩
            case measure => simp [intOf]; omega
          · have hM := HS.out.1.2.1 rfl hpe
            subst hM
            have hpe1 : ((pE : Int) == 0) = false := by simp; omega
            go_wp2_with fail
            refine bodyPost_ret (v := (⟨0, 0, pE⟩ : Res).val) (by simp [results, Try.results24, go_sem, e0, e1]) rfl ⟨rfl, (((hB4.setCell (by simp; omega) _).setCell (by simp; omega) _).setCell (by simp) _).setCell (by simp) _⟩
        · injection he with he1 he2 he3
          subst he1 he2 he3
          have hM := HS.out.1.1 (by simp)
          subst hM
          go_wp2_with fail
          refine bodyPost_ret (v := (⟨0, 0, 2⟩ : Res).val) (by simp [results, Try.results24, go_sem, e0, e1]) rfl ⟨rfl, (hB4.setCell (by simp) _).setCell (by simp) _⟩
      · have Q := (hQ4.put 0 (.int .i64 ln)).put 1 (.int .i64 ld)
        simp at Q
        have hg7 : V.heap.size ≤ V.heap.size := by omega
        replace P4 := (P4.far (p := ⟨V.heap.size, 0, none⟩) (by simp; omega) (.int .i64 ln)).far (p := ⟨V.heap.size, 1, none⟩) (by simp; omega) (.int .i64 ld)
        replace E4 := (E4.far (p := ⟨V.heap.size, 0, none⟩) (by simp; omega) (.int .i64 ln)).far (p := ⟨V.heap.size, 1, none⟩) (by simp; omega) (.int .i64 ld)
        replace M4 := (M4.far (p := ⟨V.heap.size, 0, none⟩) (by simp; omega) (.int .i64 ln)).far (p := ⟨V.heap.size, 1, none⟩) (by simp; omega) (.int .i64 ld)
        replace hB4 := (hB4.setCell (p := ⟨V.heap.size, 0, none⟩) (by simp; omega) (.int .i64 ln)).setCell (p := ⟨V.heap.size, 1, none⟩) (by simp; omega) (.int .i64 ld)
        clear q0 q1 f0 f1 hQ4
        generalize (w4.setCell ⟨V.heap.size, 0, none⟩ (.int .i64 ln)).setCell ⟨V.heap.size, 1, none⟩ (.int .i64 ld) = W5 at *
        have m1 := M4.cell 1
        have m2 := M4.cell 2
        have e0 := E4.cell 0
        have e1 := E4.cell 1
        have e2 := E4.fz 0
        have e3 := E4.fz 1
        simp at m1 m2 e0 e1
        have hQl := Q.lt
        have hEl5 := E4.lt
        rcases HS.out.2 with he | he
        · subst he
          clear e0 e1 e2 e3
          go_wp2_with fail
          refine (HO.out _ _ (by first | (simp; done) | (simp; omega)) (by simp [go_sem]) (by simp [go_sem])).mono ?_
          rintro e w6 ⟨rfl, hb6⟩
          have h6 : Below W5.heap.size W5 w6 := ((Below.refl _ _).alloc (Nat.le_refl _) _).trans (hb6.mono (by simp))
          replace P4 := P4.keep h6
          replace E4 := E4.keep h6
          replace Q := Q.keep h6
          replace hB4 := hB4.trans (h6.mono hB4.size)
          clear hb6 h6 m1 m2
          have q0 := Q.cell 0
          have q1 := Q.cell 1
          simp at q0 q1
          have hQl6 := Q.lt
          go_wp2_with fail
          refine (HA.out _).mono ?_
          rintro e w7 ⟨rfl, hb7⟩
          have h7 : Below w6.heap.size w6 w7 := ((Below.refl _ _).alloc (Nat.le_refl _) _).trans (hb7.mono (by simp))
          replace P4 := P4.keep h7
          replace E4 := E4.keep h7
          replace hB4 := hB4.trans (h7.mono hB4.size)
          clear hb7 h7 q0 q1
          have p0 := P4.cell 0
          have p1 := P4.cell 1
          have p2 := P4.fz 0
          have p3 := P4.fz 1
          have e0 := E4.cell 0
          have e1 := E4.cell 1
          have e2 := E4.fz 0
          have e3 := E4.fz 1
          simp at p0 p1 e0 e1
          have hne : w1.heap.size ≠ w.heap.size + 1 := by omega
          by_cases hpe : pE = 0
          · subst hpe
            have HN := Lib.hid (HS.out.1.2.2.1 rfl rfl)
            have hbd := HS.out.1.2.2.2 rfl
            simp only at hbd
            go_wp2_with fail
            go_roundw
            case rel => exact ⟨k + 1, pN, pD, by omega, by go_num, hbd.1, hbd.2.1, hbd.2.2, (hB4.setCell (by simp; omega) _).setCell (by simp; omega) _, (E4.far (by simp; omega) _).far (by simp; omega) _, by simpa using (P4.put 0 (.int .i64 pN)).put 1 (.int .i64 pD), HN⟩
            case measure => simp [intOf]; omega
          · have hM := HS.out.1.2.1 rfl hpe
            subst hM
            have hpe1 : ((pE : Int) == 0) = false := by simp; omega
            go_wp2_with fail
            refine bodyPost_ret (v := (⟨0, 0, pE⟩ : Res).val) (by simp [results, Try.results24, go_sem, e0, e1]) rfl ⟨rfl, (((hB4.setCell (by simp; omega) _).setCell (by simp; omega) _).setCell (by simp) _).setCell (by simp) _⟩
        · injection he with he1 he2 he3
          subst he1 he2 he3
          have hM := HS.out.1.1 (by simp)
          subst hM
          go_wp2_with fail
          refine bodyPost_ret (v := (⟨0, 0, 2⟩ : Res).val) (by simp [results, Try.results24, go_sem, e0, e1]) rfl ⟨rfl, (hB4.setCell (by simp) _).setCell (by simp) _⟩
    · have : k = L.length := by omega
      subst this
      have hE := hQ.out
      rw [List.drop_length] at hE
      unfold playGo at hE
      subst hE
      have p0 := P.cell 0
      have p1 := P.cell 1
      have e0 := E.cell 0
      have e1 := E.cell 1
      have e2 := E.fz 0
      have e3 := E.fz 1
      simp at e0 e1 p0 p1
      have hEl := E.lt
      go_wp2_with fail
      refine bodyPost_ret (v := (⟨n, d, 0⟩ : Res).val) (by simp [results, Try.results24, go_sem, e0, e1]) rfl ⟨rfl, (hB.setCell (by simp) _).setCell (by simp) _⟩

end Go.Proofs.Ytheifigkclegdaa
