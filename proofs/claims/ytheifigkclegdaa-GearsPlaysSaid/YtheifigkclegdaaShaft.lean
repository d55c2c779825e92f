/-
  What is proved: the contract of gears.shaft: the turns of a shaft for a tooth of the first driver.
-/
import Derived.Test.YtheifigkclegdaaTrain
import Derived.Deep.RegionHeld3
import Derived.Deep.AppendLies
namespace Go.Proofs.Ytheifigkclegdaa
open Go.RowKit
attribute [local go_sem] Res.val

theorem RowAt.drew_ {w : World} {A : Option Addr} {xs : List Value} (h : RowAt w A xs) : RowAt w.drew A xs := h
theorem meshCells_take (L : List Mesh) (i : Nat) (_hi : i ≤ L.length) (j : Nat) (u : Value) (h : (meshCells (L.take i))[j]? = some u) : (meshCells L)[j]? = some u := by
  have e : meshCells L = meshCells (L.take i) ++ meshCells (L.drop i) := by
    unfold meshCells
    rw [← List.flatMap_append, List.take_append_drop]
  rw [e, List.getElem?_append_left (by
    rw [List.getElem?_eq_some_iff] at h
    exact h.1)]
  exact h
theorem RowAt.take {w : World} {A : Option Addr} {L : List Mesh} (h : RowAt w A (meshCells L)) (i : Nat) (hi : i ≤ L.length) : RowAt w A (meshCells (L.take i)) := fun h0 => by
  have h1 : 0 < (meshCells L).length := by rw [meshCells_len] at h0 ⊢; simp at h0; omega
  obtain ⟨b, off, e, hb, hc⟩ := h h1
  exact ⟨b, off, e, hb, fun j u hu => hc j u (meshCells_take L i hi j u hu)⟩

/-- The turns of shaft i for a tooth. -/
def shaftR (L : List Mesh) (i : Nat) : Res := low (pr (drs (L.take i))) (pr (dns (L.take i)) * (drs L).getD 0 1)

theorem own_rowB {w : World} {base : Nat} {e : TypeId} {size n cap g : Nat} {xs : List Value} (h : w.ownsRow base e size (.slice (some ⟨g, 0, none⟩) n cap) n xs) : RowB w g 0 xs := by
  rcases h.2 with ⟨hv, _⟩ | ⟨g', cap', cur, hv, hb, hg, hnc, _, hs, ht⟩
  · cases hv
  · injection hv with hv
    injection hv with hv
    injection hv with hv
    subst hv
    have hk : Bk w g e cur := hg
    refine ⟨hk.lt, fun j u hu => ?_⟩
    rw [Nat.zero_add, hk.cell]
    rw [← ht, List.getElem?_take] at hu
    split at hu
    · simpa using hu
    · cases hu
theorem frac_kept {w w1 : World} {u v : Value} {t : TypeId} {o1 o2 : Obj} (hb : Below (((w.alloc o1).alloc o2).alloc (.cells #[u, v] t)).drew.heap.size (((w.alloc o1).alloc o2).alloc (.cells #[u, v] t)).drew w1) :
    ∀ (j : Nat) (x : Value), [u, v][j]? = some x → w1.cell? ((⟨w.heap.size + 1 + 1, 0, none⟩ : Addr).add j) = some x := by
  intro j x hx
  have hk : Bk (((w.alloc o1).alloc o2).alloc (.cells #[u, v] t)) (w.heap.size + 1 + 1) t #[u, v] := bk_last (by simp)
  have hk1 : Bk w1 (w.heap.size + 1 + 1) t #[u, v] := Bk.keep (W := (((w.alloc o1).alloc o2).alloc (.cells #[u, v] t)).drew) hk hb
  rw [add_at, Nat.zero_add, hk1.cell]
  simpa using hx

theorem Bk.grown {w w' : World} {g : Nat} {t : TypeId} {cs : Array Value} {row : Option Nat} (h : Bk w g t cs) (hb : w.grownBy w' row) (hg : some g ≠ row) : Bk w' g t cs := (hb.block g h.lt hg).trans h
theorem own_ne {w : World} {base : Nat} {e : TypeId} {size : Nat} {v : Value} {n : Nat} {xs : List Value} (h : w.ownsRow base e size v n xs) {b : Nat} (hb : b < base) : some b ≠ v.ownBlock := by
  intro e
  have := (h.lt b e.symm).1
  omega

set_option maxRecDepth 100000 in
set_option maxHeartbeats 4000000 in
theorem shaft_core (b off c i n : Nat) (D : Int) (X : List Mesh) (R : Res) (w : World) (hi : i ≤ c) (_hcm : c ≤ 9223372036854775807) (hn : 0 < n) (hi16 : i ≤ 16)
    (c0 : w.cell? ⟨b, off, none⟩ = some (.int .i64 D)) (hrow : Hid (RowAt w (some ⟨b, off, none⟩) (meshCells X)))
    (HS : Hid (∀ W : World, RowAt W (some ⟨b, off, none⟩) (meshCells X) → Calls Try.prog 73 #[.slice (some ⟨b, off, none⟩) i c] W fun e w' => ∃ v, e = .returned v ∧ w'.ownsRow W.heap.size 89 2 v i (stepCells X) ∧ Below W.heap.size W w'))
    (HP : Hid (∀ (W : World) (g cap : Nat), RowB W g 0 (stepCells X ++ [.int .i64 1, .int .i64 D]) → Calls Try.prog 71 #[.slice (some ⟨g, 0, none⟩) (i + 1) cap] W fun e w' => e = .returned R.val ∧ Below W.heap.size W w')) :
    Calls Try.prog 90 #[.agg #[.slice (some ⟨b, off, none⟩) n c], .int .i64 i] w fun e w' => e = .returned R.val ∧ Below w.heap.size w w' := by
  obtain ⟨i0, hi0, hz0, hz1, hz2⟩ := info_parts fracInfo
  have b1 : (0 : Int) ≤ (i : Int) := by omega
  have b2 : (i : Int) ≤ (c : Int) := by omega
  have b3 : (0 : Int) < (n : Int) := by omega
  have E1 : i + 1 ≤ maxLen := by unfold maxLen; omega
  have E2 : (i + 1) * 16 ≤ 140737488355328 := by omega
  have hbl := World.block_lt_of_cell? w _ c0
  simp only at hbl
  have hbn : w.heap.size + 1 ≠ b := by omega
  have K3 : ∀ o1 o2 o3 : Obj, (((w.alloc o1).alloc o2).alloc o3).drew.cell? ⟨b, off, none⟩ = some (.int .i64 D) := fun o1 o2 o3 => keepc ((((Below.refl _ _).alloc (Nat.le_refl _) _).alloc (by simp) _).alloc (by simp; omega) _).drew c0
  go_enter Try.func90, Try.ntmps90
  go_wp2_with fail
  go_region_held3 (fun w' => w'.cell? ⟨w.heap.size, 0, none⟩ = some (.slice (some ⟨b, off, none⟩) n c) ∧ w'.cell? ⟨b, off, none⟩ = some (.int .i64 D))
    (first | go_keep | (constructor <;> go_keep) | (go_split_ands; exact ⟨keepc hb1 ‹_›, keepc hb1 ‹_›⟩) | (go_split_ands; exact ⟨hgrow.cell ‹_› hne1, hgrow.cell ‹_› hne2⟩) | (go_split_ands; exact ⟨keepc hb3 ‹_›, keepc hb3 ‹_›⟩))
    ((first
      | (refine step_append_lies _ (by rfl) _ _ _ (by rfl) _ 89 i0 _ 2 16 Try.underlying91 hi0 hz0 hz1 hz2 rfl (by omega) v i (stepCells X) (by rfl) (hown.alloc _) ⟨w1.heap.size, 0, none⟩ 1 1 [.int .i64 1, .int .i64 D] (by rfl) (by rfl) (two_at _ _ _ _ _ rfl) (by simp [Value.oneCell']) (by omega) E1 E2 (by have := hb1.size; simp at this ⊢; omega) (w1.heap.size + 1) (by simp) ?_; intro g cap w2 hown2 hgrow hat hlt; have hne1 := own_ne hown (b := w.heap.size) (by simp; omega); have hne2 := own_ne hown (b := b) (by simp; omega); have hE2 := (hE.alloc _).grown hgrow (own_ne hown (b := w.heap.size + 1) (by simp)); have hB2 := (hB1.alloc hB1.size _).grown hgrow (by have := hB1.size; simp; omega) (fun k hk => by have := (hown.lt k hk).1; simp at this; omega))
      | (refine step_append_lies _ (by rfl) _ _ _ (by rfl) _ 89 i0 _ 2 16 Try.underlying91 hi0 hz0 hz1 hz2 rfl (by omega) v i (stepCells X) (by rfl) hown ⟨w.heap.size + 1 + 1, 0, none⟩ 1 1 [.int .i64 1, .int .i64 D] (by rfl) (by rfl) hfr (by simp [Value.oneCell']) (by omega) E1 E2 (by have := hb1.size; simp at this ⊢; omega) w1.heap.size rfl ?_; intro g cap w2 hown2 hgrow hat hlt; have hne1 := own_ne hown (b := w.heap.size) (by simp; omega); have hne2 := own_ne hown (b := b) (by simp; omega); have hE2 := hE.grown hgrow (own_ne hown (b := w.heap.size + 1) (by simp)); have hB2 := hB1.grown hgrow hB1.size (fun k hk => by have := (hown.lt k hk).1; simp at this; omega))
      | (go_at_call 71; refine (HP.out _ _ _ (own_rowB hown2)).mono ?_; rintro e w3 ⟨rfl, hb3⟩; have hE3 := hE2.keep hb3; have hB3 := hB2.trans (hb3.mono hB2.size); have e0 := hE3.cell 0; have e1 := hE3.cell 1; have e2 := hE3.fz 0; have e3 := hE3.fz 1; simp at e0 e1)
      | (go_at_call 73; refine (HS.out _ ((hrow.out.alloc _).alloc _).drew_).mono ?_; rintro e w1 ⟨v, rfl, hown, hb1⟩; have hE : Bk w1 (w.heap.size + 1) 42 #[.int .i64 0, .int .i64 0] := Bk.keep (Bk.drew (bk_last (by simp))) hb1; have hB1 := ((((Below.refl w.heap.size w).alloc (Nat.le_refl _) _).alloc (by simp) _).drew).trans (hb1.mono (by simp; omega)))
      | (go_at_call 73; refine (HS.out _ (((hrow.out.alloc _).alloc _).alloc _).drew_).mono ?_; rintro e w1 ⟨v, rfl, hown, hb1⟩; have hfr := frac_kept hb1; have hE : Bk w1 (w.heap.size + 1) 42 #[.int .i64 0, .int .i64 0] := Bk.keep (Bk.drew ((bk_last (by simp)).alloc _)) hb1; have hB1 := (((((Below.refl w.heap.size w).alloc (Nat.le_refl _) _).alloc (by simp) _).alloc (by simp; omega) _).drew).trans (hb1.mono (by simp; omega)))))
  all_goals
    go_wp2_with fail
    refine bodyPost_ret (v := R.val) (by simp [results, Try.results90, go_sem, e0, e1]) rfl ⟨rfl, (hB3.setCell (by simp) _).setCell (by simp) _⟩

theorem fracCells_snoc (N D : List Nat) (h : D.length = N.length) (n d : Nat) : fracCells N D ++ [.int .i64 n, .int .i64 d] = fracCells (N ++ [n]) (D ++ [d]) := by
  unfold fracCells
  rw [List.zip_append h.symm, List.flatMap_append]
  rfl

theorem getD_snoc (l : List Nat) (x j : Nat) : (l ++ [x]).getD j 1 = if j < l.length then l.getD j 1 else if j = l.length then x else 1 := by
  simp only [List.getD_eq_getElem?_getD]
  by_cases h : j < l.length
  · rw [List.getElem?_append_left h, if_pos h]
  · rw [List.getElem?_append_right (by omega), if_neg h]
    by_cases e : j = l.length
    · simp [e]
    · rw [if_neg e, List.getElem?_eq_none (by simp; omega)]
      rfl

theorem shaft_any (b off c i : Nat) (L : List Mesh) (w : World) (hL : RowAt w (some ⟨b, off, none⟩) (meshCells L)) (hok : okTrain L = true) (hc : L.length ≤ c) (hcm : c ≤ 9223372036854775807) (hi : i ≤ L.length) :
    Calls Try.prog 90 #[.agg #[.slice (some ⟨b, off, none⟩) L.length c], .int .i64 i] w fun e w' => e = .returned (shaftR L i).val ∧ Below w.heap.size w w' := by
  obtain ⟨k1, k2, k3⟩ := ok_train hok
  have d1 := ok_mesh (k3 L[0] (List.getElem_mem _))
  obtain ⟨b', off', e, hbb, hcc⟩ := hL.mesh (by omega)
  obtain ⟨c0, _, _⟩ := hcc 0 (by omega)
  injection e with e
  injection e with e1 e2
  subst e1 e2
  rw [Nat.zero_mul, Nat.add_zero] at c0
  have hD : (drs L).getD 0 1 = L[0].dr.toNat := by simp [drs, List.getD_eq_getElem?_getD, show 0 < L.length by omega]
  have hD2 : L[0].dr = ((drs L).getD 0 1 : Nat) := by rw [hD]; omega
  have k4 : ∀ m ∈ L.take i, m.ok = true := fun m hm => k3 m (List.mem_of_mem_take hm)
  have hlen : (L.take i).length = i := by rw [List.length_take]; omega
  refine shaft_core b off c i L.length L[0].dr (L.take i) (shaftR L i) w (by omega) hcm (by omega) (by omega) c0 (hL.take i hi) (fun W hW => ?_) (fun W g cap hr => ?_)
  · have h := steps_any (some ⟨b, off, none⟩) c (L.take i) W hW (by omega)
    rwa [hlen] at h
  · rw [step_frac _ k4, hD2] at hr
    have hr' : RowB W g 0 (fracCells (drs (L.take i) ++ [1]) (dns (L.take i) ++ [(drs L).getD 0 1])) := by
      rw [← fracCells_snoc _ _ (by rw [drs_len, dns_len])]
      exact hr
    have hd0 := drs_getD k3 0
    have h := product_any g 0 cap _ _ W (by simp [drs_len, dns_len]) (by simp) (by simp [drs_len]; omega) hr' (fun j => ?_) (fun j => ?_) (fun j => ?_)
    · simpa [drs_len, hlen, pr_append, pr, shaftR] using h
    · rw [getD_snoc]
      have := drs_getD k4 j
      split
      · omega
      · split <;> omega
    · rw [getD_snoc]
      have := dns_getD k4 j
      split
      · omega
      · split <;> omega
    · rw [getD_snoc]
      have := dns_getD k4 j
      split
      · omega
      · split <;> omega

end Go.Proofs.Ytheifigkclegdaa
