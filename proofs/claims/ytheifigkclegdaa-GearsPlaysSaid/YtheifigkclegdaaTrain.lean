/-
  What is proved: contracts of the functions that lay out the wheels of a train, and of the ratio of a train.
-/
import Derived.Test.YtheifigkclegdaaRatio2
namespace Go.Proofs.Ytheifigkclegdaa
open Go.RowKit
attribute [local go_sem] Res.val

def stepCells (L : List Mesh) : List Value := L.flatMap fun m => [.int .i64 m.dr, .int .i64 m.dn]
theorem stepCells_len (L : List Mesh) : (stepCells L).length = L.length * 2 := flat_len _ 2 (fun _ => rfl) L
theorem stepCells_succ (L : List Mesh) (k : Nat) (hk : k < L.length) : stepCells (L.take (k + 1)) = stepCells (L.take k) ++ [.int .i64 L[k].dr, .int .i64 L[k].dn] := by
  rw [List.take_succ_eq_append_getElem hk]
  unfold stepCells
  rw [List.flatMap_append]
  rfl

/-- What the append of one element of two cells asks and gives. -/
theorem two_at (w : World) (u v : Value) (t : TypeId) (n : Nat) (h : w.heap.size = n) : ∀ (j : Nat) (x : Value), [u, v][j]? = some x → (w.alloc (.cells #[u, v] t)).cell? ((⟨n, 0, none⟩ : Addr).add j) = some x := by
  subst h
  intro j x hx
  rw [add_at]
  match j with
  | 0 => simp at hx; subst hx; simp
  | 1 => simp at hx; subst hx; simp
  | j + 2 => simp at hx

set_option maxRecDepth 100000 in
set_option maxHeartbeats 1000000 in
theorem steps_any (A : Option Addr) (c : Nat) (L : List Mesh) (w : World) (hL : RowAt w A (meshCells L)) (hn : L.length ≤ 65536) :
    Calls Try.prog 73 #[.slice A L.length c] w fun e w' => ∃ v, e = .returned v ∧ w'.ownsRow w.heap.size 89 2 v L.length (stepCells L) ∧ Below w.heap.size w w' := by
  obtain ⟨i0, hi0, hz0, hz1, hz2⟩ := info_parts fracInfo
  go_enter Try.func73, Try.ntmps73
  go_wp2
  go_loopw [3, 8] (fun v i wr => ∃ k : Nat, k ≤ L.length ∧ i = .int .i64 k ∧ wr.ownsRow w.heap.size 89 2 v k (stepCells (L.take k)) ∧ Below w.heap.size w wr) (fun _ i _ => L.length - (intOf i).toNat)
  case atStart => exact ⟨0, Nat.zero_le _, rfl, World.ownsRow_nil _ _ _ _, Below.refl _ _⟩
  case round =>
    obtain ⟨k, hk, rfl, hown, hB⟩ := hrel
    by_cases hlt : k < L.length
    · obtain ⟨b, off, hA, hb, hc⟩ := (hL.below hB).mesh (by omega)
      obtain ⟨c0, c1, c2⟩ := hc k hlt
      clear hc
      rw [hA]
      clear hA
      have E1 : k + 1 ≤ maxLen := by unfold maxLen; omega
      have E2 : (k + 1) * 16 ≤ 140737488355328 := by omega
      have E3 : w.heap.size ≤ wr.heap.size := hB.size
      have E := Lib.hid (And.intro E1 (And.intro E2 E3))
      clear E1 E2 E3
      go_wp2_with (at_builtin; refine wpList_append_own _ rfl _ _ 91 rfl w.heap.size 89 i0 _ 2 16 Try.underlying91 hi0 hz0 hz1 hz2 rfl (by decide) _ _ _ rfl ((hown.alloc _).alloc _) ⟨wr.heap.size + 1, 0, none⟩ 1 1 [.int .i64 L[k].dr, .int .i64 L[k].dn] rfl rfl (two_at _ _ _ _ _ (by simp)) (by simp [Value.oneCell']) E.out.1 E.out.2.1 (by have := E.out.2.2; simp; omega) ?_; intro v' w1 hown' hg _)
      have hB1 : Below w.heap.size w w1 := ((hB.alloc hB.size _).alloc (by have := hB.size; simp; omega) _).grown hg (by have := hB.size; simp; omega) (fun g hg' => (hown.lt g hg').1)
      clear hg hown
      go_wp2
      go_roundw
      case rel => exact ⟨k + 1, by omega, by go_num, by rw [stepCells_succ L k hlt]; exact hown', hB1⟩
      case measure => simp [intOf]; omega
    · have : k = L.length := by omega
      subst this
      go_wp2
      go_ret
      exact ⟨_, rfl, by rw [List.take_of_length_le (by omega)] at hown; exact hown, hB⟩

/-- Drivers and driven wheels. -/
def drs (L : List Mesh) : List Nat := L.map fun m => m.dr.toNat
def dns (L : List Mesh) : List Nat := L.map fun m => m.dn.toNat
theorem drs_len (L : List Mesh) : (drs L).length = L.length := by simp [drs]
theorem dns_len (L : List Mesh) : (dns L).length = L.length := by simp [dns]

theorem ok_mesh {m : Mesh} (h : m.ok = true) : 1 ≤ m.dr ∧ m.dr ≤ 4096 ∧ 1 ≤ m.dn ∧ m.dn ≤ 4096 ∧ 0 ≤ m.pl ∧ m.pl ≤ 1000 := by
  simp only [Mesh.ok, inB, Bool.and_eq_true, decide_eq_true_eq] at h
  omega
theorem ok_train {L : List Mesh} (h : okTrain L = true) : 1 ≤ L.length ∧ L.length ≤ 16 ∧ ∀ m ∈ L, m.ok = true := by
  simp only [okTrain, inB, Bool.and_eq_true, decide_eq_true_eq, List.all_eq_true] at h
  exact ⟨by omega, by omega, h.2⟩

theorem step_frac (L : List Mesh) (h : ∀ m ∈ L, m.ok = true) : stepCells L = fracCells (drs L) (dns L) := by
  induction L with
  | nil => rfl
  | cons m L ih =>
    have hm := ok_mesh (h m (by simp))
    have e := ih fun x hx => h x (by simp [hx])
    simp only [stepCells, fracCells, drs, dns, List.map_cons, List.zip_cons_cons, List.flatMap_cons] at e ⊢
    rw [e, Int.toNat_of_nonneg (by omega), Int.toNat_of_nonneg (by omega)]

theorem getD_map_le (L : List Mesh) (f : Mesh → Int) (h : ∀ m ∈ L, 1 ≤ f m ∧ f m ≤ 4096) (j : Nat) : 1 ≤ (L.map fun m => (f m).toNat).getD j 1 ∧ (L.map fun m => (f m).toNat).getD j 1 ≤ 4096 := by
  rw [List.getD_eq_getElem?_getD, List.getElem?_map]
  cases e : L[j]? with
  | none => simp
  | some m =>
    have hm := h m (List.mem_of_getElem? e)
    simp
    omega
theorem drs_getD {L : List Mesh} (h : ∀ m ∈ L, m.ok = true) (j : Nat) : 1 ≤ (drs L).getD j 1 ∧ (drs L).getD j 1 ≤ 4096 := getD_map_le L (·.dr) (fun m hm => by have := ok_mesh (h m hm); omega) j
theorem dns_getD {L : List Mesh} (h : ∀ m ∈ L, m.ok = true) (j : Nat) : 1 ≤ (dns L).getD j 1 ∧ (dns L).getD j 1 ≤ 4096 := getD_map_le L (·.dn) (fun m hm => by have := ok_mesh (h m hm); omega) j

theorem own_row {w : World} {base : Nat} {e : TypeId} {size : Nat} {v : Value} {n : Nat} {xs : List Value} (h : w.ownsRow base e size v n xs) (hn : 0 < n) :
    ∃ g cap, v = .slice (some ⟨g, 0, none⟩) n cap ∧ base ≤ g ∧ RowB w g 0 xs := by
  obtain ⟨g, cap, cur, hv, hb, hg, _, _, hx⟩ := own_some h hn
  exact ⟨g, cap, hv, hb, hg.lt, fun j u hu => by rw [Nat.zero_add, hg.cell]; exact hx j u hu⟩

/-- The ratio of a train. -/
def ratioR (L : List Mesh) : Res := if okTrain L then low (pr (drs L)) (pr (dns L)) else ⟨0, 0, 70⟩

set_option maxHeartbeats 1000000 in
theorem ratioOf_any (A : Option Addr) (c : Nat) (L : List Mesh) (w : World) (hL : RowAt w A (meshCells L)) (hn : L.length ≤ 9223372036854775807) :
    Calls Try.prog 25 #[.agg #[.slice A L.length c]] w fun e w' => e = .returned (ratioR L).val ∧ Below w.heap.size w w' := by
  by_cases hok : okTrain L = true
  · have hR : ratioR L = low (pr (drs L)) (pr (dns L)) := by rw [ratioR, if_pos hok]
    rw [hR]
    clear hR
    obtain ⟨k1, k2, k3⟩ := ok_train hok
    have K := Lib.hid k3
    clear k3
    go_enter Try.func25, Try.ntmps25
    go_wp2_with fail
    refine (validTrain_any _ _ _ _ ((hL.alloc _).alloc _) hn).mono ?_
    rintro e w1 ⟨rfl, hb1⟩
    have T : Bk w1 w.heap.size 24 #[.slice A L.length c] := ((bk_last rfl).alloc _).keep hb1
    have E : Bk w1 (w.heap.size + 1) 42 #[.int .i64 0, .int .i64 0] := (bk_last (by simp)).keep hb1
    have hB1 : Below w.heap.size w w1 := (((Below.refl _ _).alloc (Nat.le_refl _) _).alloc (by simp) _).trans (hb1.mono (by simp; omega))
    have hz1 := hb1.size
    simp at hz1
    clear hb1
    have t0 := T.cell 0
    simp at t0
    go_wp2_with fail
    refine (steps_any _ _ L _ (hL.below hB1) (by omega)).mono ?_
    rintro e w2 ⟨v, rfl, hown, hb2⟩
    obtain ⟨g, cap, rfl, hg, hrow⟩ := own_row hown (by omega)
    replace E := E.keep hb2
    have hB2 := hB1.trans (hb2.mono hB1.size)
    have hz2 := hb2.size
    clear hb2 hB1 T t0 hown
    rw [step_frac L K.out] at hrow
    go_wp2_with fail
    have hp := product_any g 0 cap (drs L) (dns L) w2 (by rw [drs_len, dns_len]) (by rw [drs_len]; omega) (by rw [drs_len]; omega) hrow (fun j => by have := drs_getD K.out j; omega) (fun j => by have := dns_getD K.out j; omega) (fun j => by have := dns_getD K.out j; omega)
    rw [drs_len] at hp
    refine hp.mono ?_
    clear hp hrow
    rintro e w4 ⟨rfl, hb4⟩
    replace E := E.keep hb4
    have hB4 := hB2.trans (hb4.mono hB2.size)
    clear hb4 hB2
    have e0 := E.cell 0
    have e1 := E.cell 1
    have e2 := E.fz 0
    have e3 := E.fz 1
    simp at e0 e1
    go_wp2_with fail
    refine bodyPost_ret (v := (low (pr (drs L)) (pr (dns L))).val) (by simp [results, Try.results25, go_sem, e0, e1]) rfl ⟨rfl, (hB4.setCell (by simp) _).setCell (by simp) _⟩
  · have hR : ratioR L = ⟨0, 0, 70⟩ := by rw [ratioR, if_neg hok]
    rw [hR]
    clear hR
    have hok' : okTrain L = false := by simpa using hok
    go_enter Try.func25, Try.ntmps25
    go_wp2_with fail
    refine (validTrain_any _ _ _ _ ((hL.alloc _).alloc _) hn).mono ?_
    rintro e w1 ⟨rfl, hb1⟩
    have E : Bk w1 (w.heap.size + 1) 42 #[.int .i64 0, .int .i64 0] := (bk_last (by simp)).keep hb1
    have hB1 : Below w.heap.size w w1 := (((Below.refl _ _).alloc (Nat.le_refl _) _).alloc (by simp) _).trans (hb1.mono (by simp; omega))
    clear hb1
    have e0 := E.cell 0
    have e1 := E.cell 1
    have e2 := E.fz 0
    have e3 := E.fz 1
    simp at e0 e1
    go_wp2_with fail
    refine bodyPost_ret (v := .tuple #[.agg #[.int .i64 0, .int .i64 0], .int .i64 70]) (by simp [results, Try.results25, go_sem, e0, e1]) rfl ⟨rfl, (hB1.setCell (by simp) _).setCell (by simp) _⟩

end Go.Proofs.Ytheifigkclegdaa
