/-
  What is proved: contract of the specification's function that brings a product of fractions to lowest terms.
-/
import Derived.Test.YtheifigkclegdaaWheels
namespace Go.Proofs.Ytheifigkclegdaa
open Go.RowKit
attribute [local go_sem] Res.val

/-- What holds at the head of a round of lowest. -/
structure LS (w : World) (va vb : Value) (N D : List Nat) (i k : Nat) (wr : World) (Ns Ds : List Nat) : Prop where
  a : wr.ownsRow (w.heap.size + 1) 3 1 va N.length (natCells Ns)
  b : wr.ownsRow (w.heap.size + 1) 3 1 vb D.length (natCells Ds)
  ap : Apart va vb
  red : Red N D Ns Ds 9223372036854775807 i k
  nz : ∀ j, 1 ≤ Ns.getD j 1
  res : Bk wr w.heap.size 42 #[.int .i64 0, .int .i64 0]
  bel : Below w.heap.size w wr

theorem own_at {w : World} {base g n c : Nat} {l : List Nat} (h : w.ownsRow base 3 1 (.slice (some ⟨g, 0, none⟩) n c) n (natCells l)) (hl : l.length = n) (k : Nat) (hk : k < n) : w.cell? ⟨g, k, none⟩ = some (.int .i64 (l.getD k 1 : Nat)) := by
  rw [h.cellAt k (by omega), natCells_get l k (by omega)]
  simp [List.getD_eq_getElem?_getD, show k < l.length by omega]

theorem LS.open_ {w : World} {A B : Option Addr} {ca cb : Nat} {N D : List Nat} {i k : Nat} {wr : World} {Ns Ds : List Nat} (h : LS w (.slice A N.length ca) (.slice B D.length cb) N D i k wr Ns Ds) (hi : i < N.length) (hk : k < D.length) :
    ∃ ga gb x y, A = some ⟨ga, 0, none⟩ ∧ B = some ⟨gb, 0, none⟩ ∧ wr.cell? ⟨ga, i, none⟩ = some (.int .i64 (x : Nat)) ∧ wr.cell? ⟨gb, k, none⟩ = some (.int .i64 (y : Nat)) ∧
      wr.frozen? ⟨ga, i, none⟩ = false ∧ wr.frozen? ⟨gb, k, none⟩ = false ∧ ga < wr.heap.size ∧ gb < wr.heap.size ∧ ga ≠ gb ∧ 1 ≤ x ∧ x ≤ 9223372036854775807 ∧ 1 ≤ y ∧ y ≤ 9223372036854775807 ∧
      Hid (∀ (n : Nat) (X Y : Int), X = ((x / Nat.gcd x y : Nat) : Int) → Y = ((y / Nat.gcd x y : Nat) : Int) → ∃ Ns' Ds', LS w (.slice A N.length ca) (.slice B D.length cb) N D i (k + 1) (((wr.drewN n).setCell ⟨ga, i, none⟩ (.int .i64 X)).setCell ⟨gb, k, none⟩ (.int .i64 Y)) Ns' Ds') := by
  have lN := h.red.lenN
  have lD := h.red.lenD
  obtain ⟨ga, ca', ea, hga, _⟩ := own_row h.a (by omega)
  obtain ⟨gb, cb', eb, hgb, _⟩ := own_row h.b (by omega)
  injection ea with ea _ ec
  injection eb with eb _ ec'
  subst ea eb
  have la := h.a.lt ga rfl
  have lb := h.b.lt gb rfl
  have hne : ga ≠ gb := fun e => h.ap ga rfl (by rw [e]; rfl)
  refine ⟨ga, gb, Ns.getD i 1, Ds.getD k 1, rfl, rfl, own_at h.a lN i hi, own_at h.b lD k hk, h.a.frozenAt i, h.b.frozenAt k, la.2, lb.2, hne, h.nz i, h.red.leN i, h.red.posD k, h.red.leD k, fun n X Y hX hY => ?_⟩
  have ei : Ns.getD i 1 = Ns[i] := by simp [List.getD_eq_getElem?_getD, show i < Ns.length by omega]
  have ek : Ds.getD k 1 = Ds[k] := by simp [List.getD_eq_getElem?_getD, show k < Ds.length by omega]
  subst hX hY
  replace h : LS w (.slice (some ⟨ga, 0, none⟩) N.length ca) (.slice (some ⟨gb, 0, none⟩) D.length cb) N D i k (wr.drewN n) Ns Ds := ⟨h.a, h.b, h.ap, h.red, h.nz, h.res, below_drewN h.bel n⟩
  have hs0 : (wr.drewN n).heap.size = wr.heap.size := rfl
  obtain ⟨s1, g1⟩ := h.a.stored i (.int .i64 ((Ns.getD i 1 / Nat.gcd (Ns.getD i 1) (Ds.getD k 1) : Nat) : Int))
  have b1 := h.b.kept g1 (.inr (by simp [Value.ownBlock]; omega))
  obtain ⟨s2, g2⟩ := b1.stored k (.int .i64 ((Ds.getD k 1 / Nat.gcd (Ns.getD i 1) (Ds.getD k 1) : Nat) : Int))
  have a2 := s1.kept g2 (.inr (by simp [Value.ownBlock]; omega))
  rw [natCells_set] at a2 s2
  refine ⟨_, _, a2, s2, h.ap, ?_, fun j => ?_, (h.res.far (by simp; omega) _).far (by simp; omega) _, (h.bel.setCell (by simp; omega) _).setCell (by simp; omega) _⟩
  · rw [ei, ek]
    exact h.red.step (by omega) (by omega)
  · rw [getD_set]
    split
    · have h1 : 1 ≤ Ns.getD i 1 := h.nz i
      exact Nat.div_pos (Nat.gcd_le_left _ (by omega)) (Nat.gcd_pos_of_pos_left _ (by omega))
    · exact h.nz j

theorem rgcd_q (a b : Nat) (w : World) (ha : a ≤ 9223372036854775807) (hb : b ≤ 9223372036854775807) :
    Calls Try.prog 67 #[.int .i64 a, .int .i64 b] w fun e w' => e = .returned (.int .i64 (Nat.gcd a b)) ∧ ∃ n, w' = w.drewN n :=
  (rgcd_any a b w ha hb).mono fun _ _ ⟨h1, h2⟩ => ⟨h1, 0, h2.symm⟩

set_option maxRecDepth 100000 in
set_option maxHeartbeats 4000000 in
theorem lowest_any (A B : Option Addr) (ca cb : Nat) (N D : List Nat) (w : World) (hA : RowAt w A (natCells N)) (hB : RowAt w B (natCells D)) (hn : N.length ≤ 4096) (hd : D.length ≤ 4096)
    (hN : ∀ x ∈ N, 1 ≤ x ∧ x ≤ 9223372036854775807) (hD : ∀ x ∈ D, 1 ≤ x ∧ x ≤ 9223372036854775807) :
    Calls Try.prog 75 #[.slice A N.length ca, .slice B D.length cb] w fun e w' => e = .returned (low (pr N) (pr D)).val ∧ Below w.heap.size w w' := by
  obtain ⟨i0, hi0, hz0, hz1, hz2⟩ := info_parts intInfo
  have hgN : ∀ j, 1 ≤ N.getD j 1 ∧ N.getD j 1 ≤ 9223372036854775807 := fun j => by
    rcases Nat.lt_or_ge j N.length with h | h
    · have := hN N[j] (List.getElem_mem h)
      simpa [List.getD_eq_getElem?_getD, h] using this
    · simp [List.getD_eq_getElem?_getD, h]
  have hgD : ∀ j, 1 ≤ D.getD j 1 ∧ D.getD j 1 ≤ 9223372036854775807 := fun j => by
    rcases Nat.lt_or_ge j D.length with h | h
    · have := hD D[j] (List.getElem_mem h)
      simpa [List.getD_eq_getElem?_getD, h] using this
    · simp [List.getD_eq_getElem?_getD, h]
  have hst := Red.start N D 9223372036854775807 (fun j => (hgN j).2) (fun j => (hgD j).2) (fun j => (hgD j).1)
  have e1 : 0 + N.length ≤ maxLen := by unfold maxLen; omega
  have e2 : (0 + N.length) * 8 ≤ 140737488355328 := by omega
  have e3 : 0 + D.length ≤ maxLen := by unfold maxLen; omega
  have e4 : (0 + D.length) * 8 ≤ 140737488355328 := by omega
  have H := Lib.hid (And.intro hst (And.intro (fun j => (hgN j).1) (And.intro hD (And.intro (And.intro e1 e2) (And.intro e3 e4)))))
  have HA := Lib.hid (And.intro hA hB)
  have hmade : ((w.alloc (Obj.cells #[Value.int IntKind.i64 0, Value.int IntKind.i64 0] 42)).alloc (Obj.cells #[] 3)).ownsRow (w.heap.size + 1) 3 1 (.slice (some ⟨w.heap.size + 1, 0, none⟩) 0 0) 0 [] := by
    have := World.ownsRow_made (base := w.heap.size + 1) (e := 3) (size := 1) (w.alloc (Obj.cells #[Value.int IntKind.i64 0, Value.int IntKind.i64 0] 42)) #[] 0 (by simp) (Nat.zero_le _) rfl
    simpa using this
  clear hst e1 e2 e3 e4 hgN hgD hA hB hN hD
  go_enter Try.func75, Try.ntmps75
  go_upto_region 2 with (at_builtin; refine (wpList_append_row _ rfl _ _ 27 rfl (w.heap.size + 1) 3 i0 _ 1 8 Try.underlying27 hi0 hz0 hz1 hz2 rfl (by decide) _ _ _ rfl hmade A N.length ca (natCells N) rfl ((HA.out.1.alloc _).alloc _) (by simp [natCells_len]) (natCells_one _) H.out.2.2.2.1.1 H.out.2.2.2.1.2 (by simp <;> omega) ?_); intro va w1 hown1 hg1 hob1)
  have hE1 : Bk w1 w.heap.size 42 #[.int .i64 0, .int .i64 0] := ((bk_last rfl).alloc _).grown hg1 (by simp [Act.eval, Value.ownBlock])
  have hB1 : Below w.heap.size w w1 := (((Below.refl _ _).alloc (Nat.le_refl _) _).alloc (by simp) _).grown hg1 (by simp; omega) (fun g hg => by simp [Act.eval, Value.ownBlock] at hg; omega)
  have hZ1 : w.heap.size < w1.heap.size := hE1.lt
  clear hg1 hob1
  go_upto_region 3 with (at_builtin; refine (wpList_append_row _ rfl _ _ 27 rfl w1.heap.size 3 i0 _ 1 8 Try.underlying27 hi0 hz0 hz1 hz2 rfl (by decide) _ _ _ rfl (World.ownsRow_made w1 #[] 0 (Nat.le_refl _) (Nat.zero_le _) rfl) B D.length cb (natCells D) rfl ((HA.out.2.below hB1).alloc _) (by simp [natCells_len]) (natCells_one _) H.out.2.2.2.2.1 H.out.2.2.2.2.2 (by simp <;> omega) ?_); intro vb w2 hown2 hg2 hob2)
  have hap : Apart va vb := fun g h1 h2 => by
    have := (hown1.lt g h1).2
    have := (hown2.lt g h2).1
    omega
  have hrow : some w1.heap.size ≠ va.ownBlock := fun e => by
    have := (hown1.lt _ e.symm).2
    omega
  have hown1' := (hown1.alloc (Obj.cells #[] 3)).kept hg2 (by cases hv : va.ownBlock with | none => exact .inl rfl | some g => exact .inr fun e => hrow (by rw [hv, e]; simp [Act.eval, Value.ownBlock]))
  have hown2' := own_base hown2 (show w.heap.size + 1 ≤ w1.heap.size by omega)
  have hE2 : Bk w2 w.heap.size 42 #[.int .i64 0, .int .i64 0] := (hE1.alloc _).grown hg2 (by simp [Act.eval, Value.ownBlock]; omega)
  have hB2 : Below w.heap.size w w2 := (hB1.alloc hB1.size _).grown hg2 (by simp; omega) (fun g hg => by simp [Act.eval, Value.ownBlock] at hg; omega)
  obtain ⟨A1, c1, rfl, _, _, _⟩ := own_form hown1'
  obtain ⟨B1, c2, rfl, _, _, _⟩ := own_form hown2'
  rw [Nat.zero_add] at hown1' hown2'
  simp only [Nat.zero_add] at hap ⊢
  have hLS : LS w (.slice A1 N.length c1) (.slice B1 D.length c2) N D 0 0 w2 N D := ⟨hown1', hown2', hap, H.out.1, H.out.2.1, hE2, hB2⟩
  clear hg2 hob2 hap hrow hown1' hown2' hown1 hown2 hE1 hE2 hB1 hB2 HA
  clear hmade
  go_wp2
  go_loopw [8] (fun i wr => ∃ k : Nat, k ≤ N.length ∧ i = .int .i64 k ∧ ∃ Ns Ds, LS w (.slice A1 N.length c1) (.slice B1 D.length c2) N D k 0 wr Ns Ds) (fun i _ => N.length - (intOf i).toNat)
  case atStart => exact ⟨0, Nat.zero_le _, rfl, N, D, hLS⟩
  case round =>
    clear hLS
    obtain ⟨i, hi, rfl, Ns, Ds, hP⟩ := hrel
    by_cases hlt : i < N.length
    · have b0 : (i : Int) < (N.length : Int) := by omega
      go_wp2
      obtain ⟨wo, hwo⟩ : ∃ wo : World, wo = wr := ⟨_, rfl⟩
      subst hwo
      go_loopw [9] (fun j wr => ∃ k : Nat, k ≤ D.length ∧ j = .int .i64 k ∧ ∃ Ns Ds, LS w (.slice A1 N.length c1) (.slice B1 D.length c2) N D i k wr Ns Ds) (fun j _ => D.length - (intOf j).toNat)
      case atStart => exact ⟨0, Nat.zero_le _, rfl, Ns, Ds, hP⟩
      case round =>
        obtain ⟨k, hk, rfl, Ns', Ds', hQ⟩ := hrel
        by_cases hlk : k < D.length
        · obtain ⟨ga, gb, x, y, hA1, hB1, c1', c2', f1, f2, l1, l2, hne, hx1, hx2, hy1, hy2, hnext⟩ := hQ.open_ hlt hlk
          subst hA1 hB1
          clear hQ hP
          have b2 : (k : Int) < (D.length : Int) := by omega
          have g1 : 1 ≤ ((Nat.gcd x y : Nat) : Int) := by have := Nat.gcd_pos_of_pos_right x (show 0 < y by omega); omega
          have g2 : (((Nat.gcd x y : Nat) : Int) == 0) = false := by simp; omega
          go_wp2
          go_quiet ((go_at_call 67; refine Calls.quiet_of (rgcd_q _ _ _ hx2 hy2)))
          go_wp2
          have HW : Hid (∀ z : Nat, z ≤ 9223372036854775807 → wrap64 ((z : Int) / ((Nat.gcd x y : Nat) : Int)) = ((z / Nat.gcd x y : Nat) : Int)) := fun z hz => by
            have e1 : 0 ≤ (z : Int) / ((Nat.gcd x y : Nat) : Int) := Int.ediv_nonneg (by omega) (by omega)
            have e2 : (z : Int) / ((Nat.gcd x y : Nat) : Int) ≤ z := Int.ediv_le_self _ (by omega)
            rw [IntWalk.wrap64_in _ ⟨by omega, by omega⟩, Int.natCast_ediv]
          go_roundw
          case rel => exact ⟨k + 1, by omega, by go_num, hnext.out _ _ _ (HW.out x hx2) (HW.out y hy2)⟩
          case measure => simp [intOf]; omega
        · have : k = D.length := by omega
          subst this
          go_wp2
          go_roundw
          case rel => exact ⟨i + 1, by omega, by go_num, _, _, { hQ with red := hQ.red.next (by have := hQ.red.lenD; omega) }⟩
          case measure => simp [intOf]; omega
    · have : i = N.length := by omega
      subst this
      have lN := hP.red.lenN
      have lD := hP.red.lenD
      have hfin := hP.red.done (by omega) (fun d hd => (H.out.2.2.1 d hd).1)
      have hnz : ∀ x ∈ Ns, 1 ≤ x := fun x hx => by obtain ⟨j, rfl⟩ := mem_getD hx; exact hP.nz j
      have hnl : ∀ x ∈ Ns, x ≤ 9223372036854775807 := fun x hx => by obtain ⟨j, rfl⟩ := mem_getD hx; exact hP.red.leN j
      have hdz : ∀ x ∈ Ds, 1 ≤ x := fun x hx => by obtain ⟨j, rfl⟩ := mem_getD hx; exact hP.red.posD j
      have hdl : ∀ x ∈ Ds, x ≤ 9223372036854775807 := fun x hx => by obtain ⟨j, rfl⟩ := mem_getD hx; exact hP.red.leD j
      obtain ⟨_, _, e1, _, r1, _⟩ := own_form hP.a
      obtain ⟨_, _, e2, _, r2, _⟩ := own_form hP.b
      injection e1 with e1 _ e1'
      injection e2 with e2 _ e2'
      subst e1 e2 e1' e2'
      have h1 := held_any A1 c1 Ns wr r1 (by omega) hnz hnl
      have h2 := held_any B1 c2 Ds wr r2 (by omega) hdz hdl
      rw [lN] at h1
      rw [lD] at h2
      have K1 : heldN Ns ≤ 1000000000 ↔ pr Ns ≤ 1000000000 := by unfold heldN; split <;> omega
      have K2 : heldN Ds ≤ 1000000000 ↔ pr Ds ≤ 1000000000 := by unfold heldN; split <;> omega
      have K3 : pr Ns ≤ 1000000000 → heldN Ns = pr Ns := fun h => if_pos h
      have K4 : pr Ds ≤ 1000000000 → heldN Ds = pr Ds := fun h => if_pos h
      have KK := Lib.hid (And.intro K1 (And.intro K2 (And.intro K3 (And.intro K4 hfin))))
      have HC := Lib.hid (And.intro h1 h2)
      have hres := hP.res
      have hbel := hP.bel
      have rz := hres.lt
      have q0 := hres.fz 0
      have q1 := hres.fz 1
      have p0 := hres.cell 0
      have p1 := hres.cell 1
      simp at p0 p1
      clear K1 K2 K3 K4 hfin hnz hnl hdz hdl r1 r2 h1 h2 hP lN lD
      generalize heldN Ns = p at *
      generalize heldN Ds = q at *
      by_cases hp : p ≤ 1000000000
      · by_cases hq : q ≤ 1000000000
        · have d1 : decide ((1000000000 : Int) < (p : Int)) = false := by simp; omega
          have d2 : decide ((1000000000 : Int) < (q : Int)) = false := by simp; omega
          go_wp2_with fail
          refine (HC.out.1).mono ?_
          rintro e w' ⟨rfl, rfl⟩
          go_wp2_with fail
          refine (HC.out.2).mono ?_
          rintro e w' ⟨rfl, rfl⟩
          go_wp2_with fail
          refine bodyPost_ret (v := .tuple #[.agg #[.int .i64 p, .int .i64 q], .int .i64 0]) (by simp [results, Try.results75, go_sem, p0, p1, rz]) rfl ⟨?_, ?_⟩
          · have := KK.out
            rw [this.2.2.2.2, if_pos ⟨this.1.1 hp, this.2.1.1 hq⟩]
            simp only [Res.val]
            rw [this.2.2.1 (this.1.1 hp), this.2.2.2.1 (this.2.1.1 hq)]
            rfl
          · exact ((hbel.setCell (by simp) _).setCell (by simp) _).alloc (by have := hbel.size; simp; omega) _
        · have d1 : decide ((1000000000 : Int) < (p : Int)) = false := by simp; omega
          have d2 : decide ((1000000000 : Int) < (q : Int)) = true := by simp; omega
          go_wp2_with fail
          refine (HC.out.1).mono ?_
          rintro e w' ⟨rfl, rfl⟩
          go_wp2_with fail
          refine (HC.out.2).mono ?_
          rintro e w' ⟨rfl, rfl⟩
          go_wp2_with fail
          refine bodyPost_ret (v := .tuple #[.agg #[.int .i64 0, .int .i64 0], .int .i64 2]) (by simp [results, Try.results75, go_sem, p0, p1, rz]) rfl ⟨?_, ?_⟩
          · have := KK.out
            rw [this.2.2.2.2, if_neg (fun h => hq (this.2.1.2 h.2))]
            rfl
          · exact ((hbel.setCell (by simp) _).setCell (by simp) _).alloc (by have := hbel.size; simp; omega) _
      · have d1 : decide ((1000000000 : Int) < (p : Int)) = true := by simp; omega
        go_wp2_with fail
        refine (HC.out.1).mono ?_
        rintro e w' ⟨rfl, rfl⟩
        go_wp2_with fail
        refine (HC.out.2).mono ?_
        rintro e w' ⟨rfl, rfl⟩
        go_wp2_with fail
        refine bodyPost_ret (v := .tuple #[.agg #[.int .i64 0, .int .i64 0], .int .i64 2]) (by simp [results, Try.results75, go_sem, p0, p1, rz]) rfl ⟨?_, ?_⟩
        · have := KK.out
          rw [this.2.2.2.2, if_neg (fun h => hp (this.1.2 h.1))]
          rfl
        · exact ((hbel.setCell (by simp) _).setCell (by simp) _).alloc (by have := hbel.size; simp; omega) _

end Go.Proofs.Ytheifigkclegdaa
