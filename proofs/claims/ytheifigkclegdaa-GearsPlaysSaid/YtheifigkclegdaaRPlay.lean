/-
  What is proved: the contract of gears.Play in all cases and of the specification's Play.
-/
import Derived.Test.YtheifigkclegdaaPlayM
import Derived.Test.YtheifigkclegdaaTimes
namespace Go.Proofs.Ytheifigkclegdaa
open Go.RowKit
attribute [local go_sem] Res.val

set_option maxRecDepth 100000 in
set_option maxHeartbeats 4000000 in
theorem play_any (A : Option Addr) (c : Nat) (L : List Mesh) (w : World) (hL : RowAt w A (meshCells L)) (hc : L.length ≤ c) (hcm : c ≤ 9223372036854775807) :
    Calls Try.prog 24 #[.agg #[.slice A L.length c]] w fun e w' => e = .returned (playR L).val ∧ Below w.heap.size w w' := by
  by_cases hok : okTrain L = true
  · obtain ⟨k1, _, _⟩ := ok_train hok
    obtain ⟨b, off, rfl, _⟩ := hL (by rw [meshCells_len]; omega)
    rw [playR, if_pos hok]
    exact play_ok b off c L w hL hc hcm hok
  · have hok' : okTrain L = false := by simpa using hok
    rw [playR, if_neg hok]
    go_enter Try.func24, Try.ntmps24
    go_wp2_with fail
    refine (validTrain_any A c L _ ((hL.alloc _).alloc _) (by omega)).mono ?_
    rintro e w1 ⟨rfl, hb1⟩
    have E : Bk w1 (w.heap.size + 1) 42 #[.int .i64 0, .int .i64 0] := (bk_last (by simp)).keep hb1
    have hB1 : Below w.heap.size w w1 := (((Below.refl _ _).alloc (Nat.le_refl _) _).alloc (by simp) _).trans (hb1.mono (by simp; omega))
    clear hb1
    rw [hok']
    have e0 := E.cell 0
    have e1 := E.cell 1
    have e2 := E.fz 0
    have e3 := E.fz 1
    simp at e0 e1
    go_wp2_with fail
    refine bodyPost_ret (v := .tuple #[.agg #[.int .i64 0, .int .i64 0], .int .i64 70]) (by simp [results, Try.results24, go_sem, e0, e1]) rfl ⟨rfl, (hB1.setCell (by simp) _).setCell (by simp) _⟩

/-- One round of the specification. -/
theorem rplay_round {p : Res} {m : Mesh} (hp : okRatio p.num p.den = true) (hm : m.ok = true) :
    (low m.dr.toNat m.dn.toNat).err = 0 ∧ (low m.pl.toNat (1000 * m.dn.toNat)).err = 0 ∧
    reduceR m.dr m.dn = low m.dr.toNat m.dn.toNat ∧ reduceR m.pl (1000 * m.dn) = low m.pl.toNat (1000 * m.dn.toNat) ∧
    timesR p.num p.den (low m.dr.toNat m.dn.toNat).num (low m.dr.toNat m.dn.toNat).den = low (p.num * m.dr.toNat) (p.den * m.dn.toNat) := by
  have hb := ok_mesh hm
  have h1 : (low m.dr.toNat m.dn.toNat).err = 0 := low_small (by omega) (by omega) (by omega)
  refine ⟨h1, ?_, ?_, ?_, times_low_right hp (by omega) h1⟩
  · unfold low
    have q1 : m.pl.toNat / Nat.gcd m.pl.toNat (1000 * m.dn.toNat) ≤ m.pl.toNat := Nat.div_le_self _ _
    have q2 : 1000 * m.dn.toNat / Nat.gcd m.pl.toNat (1000 * m.dn.toNat) ≤ 1000 * m.dn.toNat := Nat.div_le_self _ _
    rw [if_pos ⟨by omega, by omega⟩]
  · rw [reduceR, if_neg (by omega)]
  · rw [reduceR, if_neg (by omega)]
    congr 1
    omega

theorem playStep_okr {p : Res} {m : Mesh} (hm : m.ok = true) (hp : 1 ≤ p.den) (h : (playStep p m).err = 0) : okRatio (playStep p m).num (playStep p m).den = true := by
  unfold playStep at h ⊢
  split at h
  · rename_i h1
    rw [if_pos h1]
    exact (plus_spec h).2.2.2.2.2.2.2
  · simp at h

theorem playGo_next {L : List Mesh} {k : Nat} {p M : Res} (hk : k < L.length) (h : playGo (L.drop k) p = M) :
    ((playStep p L[k]).err = 0 → playGo (L.drop (k + 1)) (playStep p L[k]) = M) ∧ ((playStep p L[k]).err ≠ 0 → M = ⟨0, 0, (playStep p L[k]).err⟩) := by
  rw [List.drop_eq_getElem_cons hk] at h
  unfold playGo at h
  constructor
  · intro h1; rwa [if_pos h1] at h
  · intro h1; rw [if_neg h1] at h; exact h.symm

set_option maxRecDepth 100000 in
set_option maxHeartbeats 16000000 in
theorem rplay_ok (b off c : Nat) (L : List Mesh) (w : World) (hL : RowAt w (some ⟨b, off, none⟩) (meshCells L)) (hn : L.length ≤ 9223372036854775807) (hok : okTrain L = true) :
    Calls Try.prog 44 #[.agg #[.slice (some ⟨b, off, none⟩) L.length c]] w fun e w' => e = .returned (playGo L ⟨0, 1, 0⟩).val ∧ Below w.heap.size w w' := by
  obtain ⟨k1, k2, k3⟩ := ok_train hok
  have HL := Lib.hid (And.intro hL (And.intro hok k3))
  clear hL hok k3
  generalize hM : playGo L ⟨0, 1, 0⟩ = M
  have HM : Hid (playGo (L.drop 0) ⟨0, 1, 0⟩ = M) := hM
  clear hM
  go_enter Try.func44, Try.ntmps44
  go_wp2_with fail
  refine (rvalidTrain_any _ _ _ _ ((HL.out.1.alloc _).alloc _) hn).mono ?_
  rintro e w1 ⟨rfl, hb1⟩
  have X : Bk w1 w.heap.size 24 #[.slice (some ⟨b, off, none⟩) L.length c] := ((bk_last rfl).alloc _).keep hb1
  have E : Bk w1 (w.heap.size + 1) 42 #[.int .i64 0, .int .i64 0] := (bk_last (by simp)).keep hb1
  have hB1 : Below w.heap.size w w1 := (((Below.refl _ _).alloc (Nat.le_refl _) _).alloc (by simp) _).trans (hb1.mono (by simp; omega))
  clear hb1
  rw [HL.out.2.1]
  go_upto_region 4 with fail
  have P : Bk (w1.alloc (Obj.cells #[Value.int IntKind.i64 0, Value.int IntKind.i64 1] 42)) w1.heap.size 42 #[.int .i64 0, .int .i64 1] := bk_last rfl
  replace X := X.alloc (Obj.cells #[Value.int IntKind.i64 0, Value.int IntKind.i64 1] 42)
  replace E := E.alloc (Obj.cells #[Value.int IntKind.i64 0, Value.int IntKind.i64 1] 42)
  have hB2 := hB1.alloc hB1.size (Obj.cells #[Value.int IntKind.i64 0, Value.int IntKind.i64 1] 42)
  have hz1 : w.heap.size + 1 < w1.heap.size := by have := E.lt; simp at this; rcases Nat.lt_or_ge (w.heap.size + 1) w1.heap.size with h | h; exact h; exfalso; have h2 : w.heap.size + 1 = w1.heap.size := by omega
                                                  have h3 := E.cell 1; rw [h2, P.cell] at h3; simp at h3
  clear hB1
  generalize w1.alloc (Obj.cells #[Value.int IntKind.i64 0, Value.int IntKind.i64 1] 42) = V at *
  generalize w1.heap.size = pb at *
  go_wp2_with fail
  go_loopw [5] (fun i wr => ∃ k : Nat, k ≤ L.length ∧ i = .int .i64 k ∧ ∃ p : Res, okRatio p.num p.den = true ∧ p.err = 0 ∧ Hid (playGo (L.drop k) p = M) ∧ Bk wr w.heap.size 24 #[.slice (some ⟨b, off, none⟩) L.length c] ∧ Bk wr (w.heap.size + 1) 42 #[.int .i64 0, .int .i64 0] ∧ Bk wr pb 42 #[.int .i64 p.num, .int .i64 p.den] ∧ Below w.heap.size w wr) (fun i _ => L.length - (intOf i).toNat)
  case atStart => exact ⟨0, Nat.zero_le _, rfl, ⟨0, 1, 0⟩, by decide, rfl, HM, X, E, P, hB2⟩
  case round =>
    clear X E P hB2 HM
    obtain ⟨k, hk, rfl, p, hp, hpe, hPg, X, E, P, hB⟩ := hrel
    have hpd : 1 ≤ p.den := by have := okRatio_bounds hp; omega
    have Xc0 := X.cell 0
    simp at Xc0
    by_cases hlt : k < L.length
    · obtain ⟨b', off', e, hbb, hcc⟩ := (HL.out.1.below hB).mesh (by omega)
      injection e with e
      injection e with e1 e2
      subst e1 e2
      obtain ⟨c0, c1, c2⟩ := hcc k hlt
      have hm := HL.out.2.2 L[k] (List.getElem_mem hlt)
      have hmb := ok_mesh hm
      have hkI : (k : Int) < (L.length : Int) := by omega
      obtain ⟨r1, r2, r3, r4, r5⟩ := rplay_round hp hm
      have hstep : playStep p L[k] = if (low (p.num * L[k].dr.toNat) (p.den * L[k].dn.toNat)).err = 0 then plusR (low (p.num * L[k].dr.toNat) (p.den * L[k].dn.toNat)).num (low (p.num * L[k].dr.toNat) (p.den * L[k].dn.toNat)).den (low L[k].pl.toNat (1000 * L[k].dn.toNat)).num (low L[k].pl.toNat (1000 * L[k].dn.toNat)).den else ⟨0, 0, 2⟩ := rfl
      have hspec := (playStep_spec hpd hm).1
      have hokr := playStep_okr hm hpd
      have hnx := playGo_next hlt hPg.out
      have herr := low_err (p.num * L[k].dr.toNat) (p.den * L[k].dn.toNat)
      have HD1 : Hid (∀ W, Calls Try.prog 53 #[.int .i64 L[k].dr, .int .i64 L[k].dn] W fun e w' => e = .returned (low L[k].dr.toNat L[k].dn.toNat).val ∧ Below W.heap.size W w') := fun W => by rw [← r3]; exact rreduce_any _ _ W (by omega) (by omega)
      have HD2 : Hid (∀ W, Calls Try.prog 53 #[.int .i64 L[k].pl, .int .i64 (1000 * L[k].dn)] W fun e w' => e = .returned (low L[k].pl.toNat (1000 * L[k].dn.toNat)).val ∧ Below W.heap.size W w') := fun W => by rw [← r4]; exact rreduce_any _ _ W (by omega) (by omega)
      have HT : Hid (∀ W, Calls Try.prog 54 #[.agg #[.int .i64 p.num, .int .i64 p.den], .agg #[.int .i64 (low L[k].dr.toNat L[k].dn.toNat).num, .int .i64 (low L[k].dr.toNat L[k].dn.toNat).den]] W fun e w' => e = .returned (low (p.num * L[k].dr.toNat) (p.den * L[k].dn.toNat)).val ∧ Below W.heap.size W w') := fun W => by rw [← r5]; exact rtimes_any _ _ _ _ W
      have HU : Hid (∀ W, Calls Try.prog 55 #[.agg #[.int .i64 (low (p.num * L[k].dr.toNat) (p.den * L[k].dn.toNat)).num, .int .i64 (low (p.num * L[k].dr.toNat) (p.den * L[k].dn.toNat)).den], .agg #[.int .i64 (low L[k].pl.toNat (1000 * L[k].dn.toNat)).num, .int .i64 (low L[k].pl.toNat (1000 * L[k].dn.toNat)).den]] W fun e w' => e = .returned (plusR (low (p.num * L[k].dr.toNat) (p.den * L[k].dn.toNat)).num (low (p.num * L[k].dr.toNat) (p.den * L[k].dn.toNat)).den (low L[k].pl.toNat (1000 * L[k].dn.toNat)).num (low L[k].pl.toNat (1000 * L[k].dn.toNat)).den).val ∧ Below W.heap.size W w') := fun W => rplus_any _ _ _ _ W
      generalize playStep p L[k] = st at *
      generalize plusR _ _ _ _ = y at *
      generalize low (p.num * L[k].dr.toNat) (p.den * L[k].dn.toNat) = x at *
      generalize low L[k].dr.toNat L[k].dn.toNat = bq at *
      generalize low L[k].pl.toNat (1000 * L[k].dn.toNat) = oq at *
      generalize L[k] = m at *
      obtain ⟨dr, dn, pl⟩ := m
      obtain ⟨xn, xd, xe⟩ := x
      obtain ⟨yn, yd, ye⟩ := y
      obtain ⟨bn, bd, be⟩ := bq
      obtain ⟨on, od, oe⟩ := oq
      obtain ⟨pn, pd, pe⟩ := p
      simp only at c0 c1 c2 hmb hpe r1 r2 hp hstep herr P hpd HD1 HD2 HT HU
      subst hpe r1 r2
      have HS := Lib.hid (And.intro hstep (And.intro hspec (And.intro hokr hnx)))
      clear hcc hPg r3 r4 r5 hstep hspec hokr hnx hbb hm
      obtain ⟨w100, hw100⟩ : ∃ w100, w100 = wr := ⟨_, rfl⟩
      subst hw100
      have hB100 := hB
      clear hB
      go_wp2_with fail
      refine (HD1.out _).mono ?_
      rintro e' w101 ⟨rfl, hb101⟩
      have Mb : Bk w101 w100.heap.size 36 #[.int .i64 dr, .int .i64 dn, .int .i64 pl] := (bk_last rfl).keep hb101
      replace X := (X.alloc _).keep hb101
      replace E := (E.alloc _).keep hb101
      replace P := (P.alloc _).keep hb101
      have hB101 : Below w.heap.size w w101 := (hB100.alloc hB100.size _).trans (hb101.mono (by have := hB100.size; simp; omega))
      clear hb101 hB100
      clear c0 c1 c2 Xc0
      have Mbc0 := Mb.cell 0
      have Mbc1 := Mb.cell 1
      have Mbc2 := Mb.cell 2
      simp at Mbc0 Mbc1 Mbc2
      have Mbl := Mb.lt
      go_wp2_with fail
      refine (HD2.out _).mono ?_
      rintro e' w102 ⟨rfl, hb102⟩
      have R1 : Bk w102 w101.heap.size 42 #[.int .i64 bn, .int .i64 bd] := (bk_last rfl).keep hb102
      replace X := (X.alloc _).keep hb102
      replace E := (E.alloc _).keep hb102
      replace P := (P.alloc _).keep hb102
      replace Mb := (Mb.alloc _).keep hb102
      have hB102 : Below w.heap.size w w102 := (hB101.alloc hB101.size _).trans (hb102.mono (by have := hB101.size; simp; omega))
      clear Mbc0 Mbc1 Mbc2 Mbl
      clear hb102 hB101
      have Pc0 := P.cell 0
      have Pc1 := P.cell 1
      simp at Pc0 Pc1
      have Pl := P.lt
      have R1c0 := R1.cell 0
      have R1c1 := R1.cell 1
      simp at R1c0 R1c1
      have R1l := R1.lt
      go_wp2_with fail
      refine (HT.out _).mono ?_
      rintro e' w103 ⟨rfl, hb103⟩
      have R2 : Bk w103 w102.heap.size 42 #[.int .i64 on, .int .i64 od] := (bk_last rfl).keep hb103
      replace X := (X.alloc _).keep hb103
      replace E := (E.alloc _).keep hb103
      replace P := (P.alloc _).keep hb103
      replace Mb := (Mb.alloc _).keep hb103
      replace R1 := (R1.alloc _).keep hb103
      have hB103 : Below w.heap.size w w103 := (hB102.alloc hB102.size _).trans (hb103.mono (by have := hB102.size; simp; omega))
      clear Pc0 Pc1 Pl R1c0 R1c1 R1l
      clear hb103 hB102
      by_cases hxe : xe = 0
      · subst hxe
        have hst := HS.out.1
        rw [if_pos rfl] at hst
        subst hst
        have R2c0 := R2.cell 0
        have R2c1 := R2.cell 1
        simp at R2c0 R2c1
        have R2l := R2.lt
        go_wp2_with fail
        refine (HU.out _).mono ?_
        rintro e' w104 ⟨rfl, hb104⟩
        have R11 : Bk w104 w103.heap.size 42 #[.int .i64 xn, .int .i64 xd] := (bk_last rfl).keep hb104
        replace X := (X.alloc _).keep hb104
        replace E := (E.alloc _).keep hb104
        replace P := (P.alloc _).keep hb104
        replace Mb := (Mb.alloc _).keep hb104
        replace R1 := (R1.alloc _).keep hb104
        replace R2 := (R2.alloc _).keep hb104
        have hB104 : Below w.heap.size w w104 := (hB103.alloc hB103.size _).trans (hb104.mono (by have := hB103.size; simp; omega))
        clear R2c0 R2c1 R2l
        clear hb104 hB103
        by_cases hye : ye = 0
        · subst hye
          have hM := HS.out.2.2.2.1 rfl
          have hok2 := HS.out.2.2.1 rfl
          have HM2 : Hid (playGo (L.drop (k + 1)) ⟨yn, yd, 0⟩ = M) := hM
          clear hM HS
          have Pc0 := P.cell 0
          have Pc1 := P.cell 1
          simp at Pc0 Pc1
          have Pl := P.lt
          have Pf0 := P.fz 0
          have Pf1 := P.fz 1
          have Xl := X.lt
          go_wp2_with fail
          go_roundw
          case rel => exact ⟨k + 1, by omega, by go_num, ⟨yn, yd, 0⟩, hok2, rfl, HM2, ((X.far (by simp; omega) _).far (by simp; omega) _).alloc _, ((E.far (by simp; omega) _).far (by simp; omega) _).alloc _, by simpa using (((P.put 0 _).put 1 _).alloc _), ((hB104.setCell (by simp; omega) _).setCell (by simp; omega) _).alloc (by have := hB104.size; simp; omega) _⟩
          case measure => simp [intOf]; omega
        · have hM := HS.out.2.2.2.2 (by simpa using hye)
          subst hM
          have hye' : ((ye : Int) == 0) = false := by simp; omega
          have Ec0 := E.cell 0
          have Ec1 := E.cell 1
          simp at Ec0 Ec1
          have El := E.lt
          have Ef0 := E.fz 0
          have Ef1 := E.fz 1
          go_wp2_with fail
          refine bodyPost_ret (v := (⟨0, 0, ye⟩ : Res).val) (by simp [results, Try.results44, go_sem, Ec0, Ec1, El]) rfl ⟨rfl, ((hB104.setCell (by simp) _).setCell (by simp) _).alloc (by simpa using hB104.size) _⟩
      · have hst := HS.out.1
        rw [if_neg hxe] at hst
        have hx2 : xe = 2 := by
          rcases herr with h | h
          · exact absurd h hxe
          · injection h with _ _ h
        have hM := HS.out.2.2.2.2 (by rw [hst]; simp)
        rw [hst] at hM
        simp only at hM
        subst hM
        have hxe' : ((xe : Int) == 0) = false := by simp; omega
        subst hx2
        have Ec0 := E.cell 0
        have Ec1 := E.cell 1
        simp at Ec0 Ec1
        have El := E.lt
        have Ef0 := E.fz 0
        have Ef1 := E.fz 1
        go_wp2_with fail
        refine bodyPost_ret (v := (⟨0, 0, 2⟩ : Res).val) (by simp [results, Try.results44, go_sem, Ec0, Ec1, El]) rfl ⟨rfl, ((hB103.setCell (by simp) _).setCell (by simp) _).alloc (by simpa using hB103.size) _⟩
    · have : k = L.length := by omega
      subst this
      have hM := hPg.out
      rw [List.drop_length] at hM
      unfold playGo at hM
      subst hM
      obtain ⟨pn, pd, pe⟩ := p
      simp only at hpe P
      subst hpe
      have Pc0 := P.cell 0
      have Pc1 := P.cell 1
      have Ec0 := E.cell 0
      have Ec1 := E.cell 1
      simp at Pc0 Pc1 Ec0 Ec1
      have Ef0 := E.fz 0
      have Ef1 := E.fz 1
      have El := E.lt
      go_wp2_with fail
      refine bodyPost_ret (v := (⟨pn, pd, 0⟩ : Res).val) (by simp [results, Try.results44, go_sem, Ec0, Ec1, El]) rfl ⟨rfl, (hB.setCell (by simp) _).setCell (by simp) _⟩

set_option maxRecDepth 100000 in
set_option maxHeartbeats 4000000 in
theorem rplay_any (A : Option Addr) (c : Nat) (L : List Mesh) (w : World) (hL : RowAt w A (meshCells L)) (hn : L.length ≤ 9223372036854775807) :
    Calls Try.prog 44 #[.agg #[.slice A L.length c]] w fun e w' => e = .returned (playR L).val ∧ Below w.heap.size w w' := by
  by_cases hok : okTrain L = true
  · obtain ⟨k1, _, _⟩ := ok_train hok
    obtain ⟨b, off, rfl, _⟩ := hL (by rw [meshCells_len]; omega)
    rw [playR, if_pos hok]
    exact rplay_ok b off c L w hL hn hok
  · have hok' : okTrain L = false := by simpa using hok
    rw [playR, if_neg hok]
    go_enter Try.func44, Try.ntmps44
    go_wp2_with fail
    refine (rvalidTrain_any A c L _ ((hL.alloc _).alloc _) hn).mono ?_
    rintro e w1 ⟨rfl, hb1⟩
    have E : Bk w1 (w.heap.size + 1) 42 #[.int .i64 0, .int .i64 0] := (bk_last (by simp)).keep hb1
    have hB1 : Below w.heap.size w w1 := (((Below.refl _ _).alloc (Nat.le_refl _) _).alloc (by simp) _).trans (hb1.mono (by simp; omega))
    clear hb1
    rw [hok']
    have e0 := E.cell 0
    have e1 := E.cell 1
    have e2 := E.fz 0
    have e3 := E.fz 1
    simp at e0 e1
    go_wp2_with fail
    refine bodyPost_ret (v := .tuple #[.agg #[.int .i64 0, .int .i64 0], .int .i64 70]) (by simp [results, Try.results44, go_sem, e0, e1]) rfl ⟨rfl, (hB1.setCell (by simp) _).setCell (by simp) _⟩

end Go.Proofs.Ytheifigkclegdaa
