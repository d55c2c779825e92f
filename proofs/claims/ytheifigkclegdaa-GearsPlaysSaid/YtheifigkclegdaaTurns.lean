/-
  What is proved: contracts of the specification's functions on the turns of a shaft and the ratio of a train.
-/
import Derived.Test.YtheifigkclegdaaLowest
namespace Go.Proofs.Ytheifigkclegdaa
open Go.RowKit
attribute [local go_sem] Res.val

theorem keepA {W : World} {b o : Nat} {v : Value} {x : Obj} (h : W.cell? ⟨b, o, none⟩ = some v) : (W.alloc x).cell? ⟨b, o, none⟩ = some v := keepc ((Below.refl _ _).alloc (Nat.le_refl _) _) h

theorem drI_nat (L : List Mesh) (h : ∀ m ∈ L, m.ok = true) : intCells (drI L) = natCells (drs L) := by
  simp only [intCells, drI, natCells, drs, List.map_map]
  refine List.map_congr_left fun m hm => ?_
  have := ok_mesh (h m hm)
  simp; omega
theorem dnI_nat (L : List Mesh) (h : ∀ m ∈ L, m.ok = true) : intCells (dnI L) = natCells (dns L) := by
  simp only [intCells, dnI, natCells, dns, List.map_map]
  refine List.map_congr_left fun m hm => ?_
  have := ok_mesh (h m hm)
  simp; omega
theorem drs_mem {L : List Mesh} (h : ∀ m ∈ L, m.ok = true) : ∀ x ∈ drs L, 1 ≤ x ∧ x ≤ 9223372036854775807 := by
  intro x hx
  obtain ⟨m, hm, rfl⟩ := List.mem_map.1 hx
  have := ok_mesh (h m hm)
  omega
theorem dns_mem {L : List Mesh} (h : ∀ m ∈ L, m.ok = true) : ∀ x ∈ dns L, 1 ≤ x ∧ x ≤ 9223372036854775807 := by
  intro x hx
  obtain ⟨m, hm, rfl⟩ := List.mem_map.1 hx
  have := ok_mesh (h m hm)
  omega

/-- Both lists of a valid train's first meshes, read back. -/
theorem wheels_low {w : World} {base n : Nat} {va vb : Value} {L : List Mesh} (h : ∀ m ∈ L, m.ok = true) (_hl : L.length = n)
    (ha : w.ownsRow base 3 1 va n (intCells (drI L))) (hb : w.ownsRow base 3 1 vb n (intCells (dnI L))) :
    w.ownsRow base 3 1 va n (natCells (drs L)) ∧ w.ownsRow base 3 1 vb n (natCells (dns L)) := by
  rw [drI_nat L h] at ha
  rw [dnI_nat L h] at hb
  exact ⟨ha, hb⟩

set_option maxRecDepth 100000 in
set_option maxHeartbeats 4000000 in
theorem turns_any (b off c i : Nat) (L : List Mesh) (w : World) (hL : RowAt w (some ⟨b, off, none⟩) (meshCells L)) (hok : okTrain L = true) (hi : i ≤ L.length) :
    Calls Try.prog 64 #[.agg #[.slice (some ⟨b, off, none⟩) L.length c], .int .i64 i] w fun e w' => e = .returned (shaftR L i).val ∧ Below w.heap.size w w' := by
  obtain ⟨i0, hi0, hz0, hz1, hz2⟩ := info_parts intInfo
  obtain ⟨k1, k2, k3⟩ := ok_train hok
  have d1 := ok_mesh (k3 L[0] (List.getElem_mem _))
  obtain ⟨b', off', e, hbb, hcc⟩ := hL.mesh (by omega)
  obtain ⟨c0, _, _⟩ := hcc 0 (by omega)
  injection e with e
  injection e with e1 e2
  subst e1 e2
  rw [Nat.zero_mul, Nat.add_zero] at c0
  have hD : (drs L).getD 0 1 = L[0].dr.toNat := by simp [drs, List.getD_eq_getElem?_getD, show 0 < L.length by omega]
  have hD2 : L[0].dr = ((drs L).getD 0 1 : Nat) := by rw [hD]; omega
  have hD3 : 1 ≤ (drs L).getD 0 1 ∧ (drs L).getD 0 1 ≤ 9223372036854775807 := by rw [hD]; omega
  rw [hD2] at c0
  have k4 : ∀ m ∈ L.take i, m.ok = true := fun m hm => k3 m (List.mem_of_mem_take hm)
  have hlen : (L.take i).length = i := by rw [List.length_take]; omega
  have hR : low (pr (drs (L.take i))) (pr (dns (L.take i) ++ [(drs L).getD 0 1])) = shaftR L i := by rw [shaftR, pr_append]; simp [pr]
  have hLW : ∀ (W : World) (A B : Option Addr) (ca cb : Nat), RowAt W A (natCells (drs (L.take i))) → RowAt W B (natCells (dns (L.take i) ++ [(drs L).getD 0 1])) →
      Calls Try.prog 75 #[.slice A i ca, .slice B (i + 1) cb] W fun e w' => e = .returned (shaftR L i).val ∧ Below W.heap.size W w' := fun W A B ca cb h1 h2 => by
    have h := lowest_any A B ca cb _ _ W h1 h2 (by rw [drs_len, hlen]; omega) (by rw [List.length_append, dns_len, hlen]; simp; omega) (drs_mem k4) (fun x hx => by
      rcases List.mem_append.1 hx with h | h
      · exact dns_mem k4 x h
      · rw [List.mem_singleton] at h; subst h; exact hD3)
    rw [hR, drs_len, List.length_append, dns_len, hlen] at h
    exact h
  have HLW := Lib.hid hLW
  clear hLW
  have hnc : natCells (dns (L.take i) ++ [(drs L).getD 0 1]) = natCells (dns (L.take i)) ++ [.int .i64 ((drs L).getD 0 1 : Nat)] := by simp [natCells]
  have HNC := Lib.hid hnc
  clear hnc
  have E1 : i + 1 ≤ maxLen := by unfold maxLen; omega
  have E2 : (i + 1) * 8 ≤ 140737488355328 := by omega
  have HL := Lib.hid (And.intro hL (And.intro k3 (And.intro k4 (And.intro hlen (And.intro hR (And.intro hD3 (And.intro E1 E2)))))))
  clear hcc hD hD2 hD3 d1 hok hR hlen k4 k3 E1 E2 hL
  generalize (drs L).getD 0 1 = d at *
  go_enter Try.func64, Try.ntmps64
  go_wp2_with fail
  refine (wheels_any (some ⟨b, off, none⟩) c i L _ ((HL.out.1.alloc _).alloc _) hi (by omega)).mono ?_
  rintro e w1 ⟨va, vb, rfl, ho1, ho2, hap, hb1⟩
  obtain ⟨hn1, hn2⟩ := wheels_low HL.out.2.2.1 HL.out.2.2.2.1 ho1 ho2
  have hE : Bk w1 (w.heap.size + 1) 42 #[.int .i64 0, .int .i64 0] := (bk_last (by simp)).keep hb1
  have hX : Bk w1 w.heap.size 24 #[.slice (some ⟨b, off, none⟩) L.length c] := ((bk_last rfl).alloc _).keep hb1
  have hB1 : Below w.heap.size w w1 := (((Below.refl _ _).alloc (Nat.le_refl _) _).alloc (by simp) _).trans (hb1.mono (by simp; omega))
  have c1 : w1.cell? ⟨b, off, none⟩ = some (.int .i64 d) := keepc hb1 (keepA (keepA c0))
  have hx := hX.cell 0
  simp at hx
  have hEl := hE.lt
  simp only [World.size_alloc] at hn1 hn2
  clear hb1 ho1 ho2 c0
  obtain ⟨A1, ca, rfl, _, _, _⟩ := own_form hn1
  have hlow1 : ∀ g, vb.ownBlock = some g → w.heap.size + 1 + 1 ≤ g := fun g hg => (hn2.lt g hg).1
  have hbv : b < w.heap.size := hbb
  go_upto_region 3 with (first
    | (at_builtin; refine (wpList_append_own_at _ rfl _ _ 27 rfl (w.heap.size + 1 + 1) 3 i0 _ 1 8 Try.underlying27 hi0 hz0 hz1 hz2 rfl (by decide) _ _ _ rfl (hn2.alloc _) ⟨w1.heap.size, 0, none⟩ 1 1 [.int .i64 d] rfl rfl (cell_one_new _ _ _) (by simp [Value.oneCell']) HL.out.2.2.2.2.2.2.1 HL.out.2.2.2.2.2.2.2 (by simp <;> omega) ?_); intro vb' w2 hown2 hg2 _ hob2))
  have hown1 := (hn1.alloc (Obj.cells #[.int .i64 (d : Int)] 3)).kept hg2 hap.symm.row
  have hE2 : Bk w2 (w.heap.size + 1) 42 #[.int .i64 0, .int .i64 0] := (hE.alloc _).grown hg2 (fun e => by have := hlow1 _ e.symm; omega)
  have hB2 : Below w.heap.size w w2 := (hB1.alloc hB1.size _).grown hg2 (by simp; omega) (fun g hg => by have := hlow1 g hg; omega)
  obtain ⟨_, _, e1, _, ra, _⟩ := own_form hown1
  injection e1 with e1 _ e1'
  subst e1 e1'
  obtain ⟨B2, cb, rfl, _, rb, _⟩ := own_form hown2
  clear hg2 hob2 hown1 hown2 hn1 hn2 hap hlow1 hE hX hB1 c1 hx
  refine (HLW.out w2 A1 B2 ca cb ra (by rw [HNC.out]; exact rb)).mono ?_
  rintro e w3 ⟨rfl, hb3⟩
  have hE3 := hE2.keep hb3
  have hB3 := hB2.trans (hb3.mono hB2.size)
  have e0 := hE3.cell 0
  have e1 := hE3.cell 1
  have e2 := hE3.fz 0
  have e3 := hE3.fz 1
  simp at e0 e1
  clear hb3 hE2 hB2
  go_wp2_with fail
  refine bodyPost_ret (v := (shaftR L i).val) (by simp [results, Try.results64, go_sem, e0, e1]) rfl ⟨rfl, (hB3.setCell (by simp) _).setCell (by simp) _⟩

end Go.Proofs.Ytheifigkclegdaa
