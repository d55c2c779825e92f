/-
  What is proved: contracts of the functions that ask whether meshes and trains are valid.
-/
import Derived.Test.YtheifigkclegdaaGcd
namespace Go.Proofs.Ytheifigkclegdaa
open Go.RowKit

/-- A mesh as data. -/
structure Mesh where
  dr : Int
  dn : Int
  pl : Int

def Mesh.val (m : Mesh) : Value := .agg #[.int .i64 m.dr, .int .i64 m.dn, .int .i64 m.pl]
def Mesh.ok (m : Mesh) : Bool := inB m.dr 1 4096 && inB m.dn 1 4096 && inB m.pl 0 1000

theorem bcell {W w1 : World} (hb : Below W.heap.size W w1) : (∀ b o, b < W.heap.size → w1.cell? ⟨b, o, none⟩ = W.cell? ⟨b, o, none⟩) ∧ (∀ b o, b < W.heap.size → w1.frozen? ⟨b, o, none⟩ = W.frozen? ⟨b, o, none⟩) :=
  ⟨fun b o h => hb.cell (p := ⟨b, o, none⟩) h, fun b o h => hb.frozen (p := ⟨b, o, none⟩) h⟩

/-- The slice value that starts at A reads as the cells xs. -/
def RowAt (w : World) (A : Option Addr) (xs : List Value) : Prop :=
  0 < xs.length → ∃ b off, A = some ⟨b, off, none⟩ ∧ b < w.heap.size ∧ ∀ j u, xs[j]? = some u → w.cell? ⟨b, off + j, none⟩ = some u

theorem RowAt.keep {w w' : World} {A : Option Addr} {xs : List Value} (h : RowAt w A xs) (hz : w.heap.size ≤ w'.heap.size) (hk : ∀ b o, b < w.heap.size → w'.cell? ⟨b, o, none⟩ = w.cell? ⟨b, o, none⟩) : RowAt w' A xs := fun hn => by
  obtain ⟨b, off, e, hb, hc⟩ := h hn
  exact ⟨b, off, e, by omega, fun j u hu => (hk _ _ hb).trans (hc j u hu)⟩
theorem RowAt.below {w w' : World} {A : Option Addr} {xs : List Value} (h : RowAt w A xs) (hb : Below w.heap.size w w') : RowAt w' A xs :=
  h.keep hb.size (bcell hb).1
theorem RowAt.alloc {w : World} {A : Option Addr} {xs : List Value} (h : RowAt w A xs) (o : Obj) : RowAt (w.alloc o) A xs :=
  h.keep (by simp) fun b o' hb => World.cell?_alloc_lt w o _ hb
theorem RowAt.drewN {w : World} {A : Option Addr} {xs : List Value} (h : RowAt w A xs) (n : Nat) : RowAt (w.drewN n) A xs := h

/-- .. as these meshes. -/
def meshCells (L : List Mesh) : List Value := L.flatMap fun m => [.int .i64 m.dr, .int .i64 m.dn, .int .i64 m.pl]

theorem flat_get {α : Type} (f : α → List Value) (k : Nat) (hf : ∀ x, (f x).length = k) (_hk : 0 < k) (L : List α) (i j : Nat) (hi : i < L.length) (hj : j < k) : (L.flatMap f)[i * k + j]? = (f L[i])[j]? := by
  induction L generalizing i with
  | nil => simp at hi
  | cons a L ih =>
    cases i with
    | zero => simp [List.getElem?_append, hf, hj]
    | succ i =>
      have h1 : (i + 1) * k + j = k + (i * k + j) := by rw [Nat.add_mul]; omega
      simp only [List.flatMap_cons, List.getElem?_append, hf]
      rw [if_neg (by omega), h1, Nat.add_sub_cancel_left]
      exact ih i (by simpa using hi)
theorem flat_len {α : Type} (f : α → List Value) (k : Nat) (hf : ∀ x, (f x).length = k) (L : List α) : (L.flatMap f).length = L.length * k := by
  induction L with
  | nil => simp
  | cons a L ih => simp [hf, ih, Nat.add_mul]; omega

theorem meshCells_len (L : List Mesh) : (meshCells L).length = L.length * 3 := flat_len _ 3 (fun _ => rfl) L

theorem RowAt.mesh {w : World} {A : Option Addr} {L : List Mesh} (h : RowAt w A (meshCells L)) (h0 : 0 < L.length) :
    ∃ b off, A = some ⟨b, off, none⟩ ∧ b < w.heap.size ∧ ∀ k (hk : k < L.length), w.cell? ⟨b, off + k * 3, none⟩ = some (.int .i64 L[k].dr) ∧ w.cell? ⟨b, off + k * 3 + 1, none⟩ = some (.int .i64 L[k].dn) ∧ w.cell? ⟨b, off + k * 3 + 2, none⟩ = some (.int .i64 L[k].pl) := by
  obtain ⟨b, off, e, hb, hc⟩ := h (by rw [meshCells_len]; omega)
  refine ⟨b, off, e, hb, fun k hk => ⟨?_, ?_, ?_⟩⟩
  · exact hc (k * 3) _ (by rw [← Nat.add_zero (k * 3)]; exact flat_get _ 3 (fun _ => rfl) (by omega) L k 0 hk (by omega))
  · exact hc (k * 3 + 1) _ (flat_get _ 3 (fun _ => rfl) (by omega) L k 1 hk (by omega))
  · exact hc (k * 3 + 2) _ (flat_get _ 3 (fun _ => rfl) (by omega) L k 2 hk (by omega))

set_option maxHeartbeats 400000 in
theorem rvalidMesh_any (x y z : Int) (w : World) :
    Calls Try.prog 76 #[.agg #[.int .i64 x, .int .i64 y, .int .i64 z]] w fun e w' => e = .returned (.bool (Mesh.ok ⟨x, y, z⟩)) ∧ Below w.heap.size w w' := by
  go_enter Try.func76, Try.ntmps76
  go_wp2_with (go_at_call 78; refine (rwithin_any _ _ _ _).mono ?_; rintro e w' ⟨rfl, rfl⟩)
  all_goals
    go_ret
    exact ⟨ret_bool (by simp [Mesh.ok, *]), by go_grown⟩

set_option maxHeartbeats 400000 in
theorem validMesh_any (x y z : Int) (w : World) :
    Calls Try.prog 77 #[.agg #[.int .i64 x, .int .i64 y, .int .i64 z]] w fun e w' => e = .returned (.bool (Mesh.ok ⟨x, y, z⟩)) ∧ Below w.heap.size w w' := by
  go_enter Try.func77, Try.ntmps77
  go_wp2_with (go_at_call 68; refine (within_any _ _ _ _).mono ?_; rintro e w' ⟨rfl, rfl⟩)
  all_goals
    go_ret
    exact ⟨ret_bool (by simp [Mesh.ok, *]), by go_grown⟩

set_option maxHeartbeats 400000 in
theorem badMesh_any (x y z : Int) (w : World) :
    Calls Try.prog 80 #[.agg #[.int .i64 x, .int .i64 y, .int .i64 z]] w fun e w' => e = .returned (.bool (!Mesh.ok ⟨x, y, z⟩)) ∧ Below w.heap.size w w' := by
  go_enter Try.func80, Try.ntmps80
  go_wp2_with (go_at_call 77; refine (validMesh_any _ _ _ _).mono ?_; rintro e w' ⟨rfl, hb⟩)
  all_goals
    go_ret
    exact ⟨rfl, ((Below.refl _ _).alloc (Nat.le_refl _) _).trans (hb.mono (by simp))⟩

/-- The first mesh that is not valid, or -1. -/
def badAt (L : List Mesh) : Int := match L.findIdx? (fun m => !m.ok) with | some i => i | none => -1
theorem badAt_hit (L : List Mesh) (k : Nat) (hk : k < L.length) (h : ∀ j (h : j < L.length), j < k → L[j].ok = true) (hb : L[k].ok = false) : badAt L = k := by
  have e : L.findIdx? (fun m => !m.ok) = some k := by
    rw [List.findIdx?_eq_some_iff_getElem]
    exact ⟨hk, by simp [hb], fun j hj => by simp [h j (by omega) hj]⟩
  simp [badAt, e]
theorem badAt_none (L : List Mesh) (h : ∀ j (h : j < L.length), j < L.length → L[j].ok = true) : badAt L = -1 := by
  have e : L.findIdx? (fun m => !m.ok) = none := by
    rw [List.findIdx?_eq_none_iff]
    intro m hm
    obtain ⟨j, hj, rfl⟩ := List.getElem_of_mem hm
    simp [h j hj hj]
  simp [badAt, e]
theorem badAt_all (L : List Mesh) : decide (badAt L ≥ 0) = !L.all Mesh.ok := by
  unfold badAt
  cases e : L.findIdx? (fun m => !m.ok) with
  | none =>
    rw [List.findIdx?_eq_none_iff] at e
    have h : L.all Mesh.ok = true := by rw [List.all_eq_true]; intro m hm; simpa using e m hm
    simp [h]
  | some i =>
    rw [List.findIdx?_eq_some_iff_getElem] at e
    obtain ⟨hi, h1, _⟩ := e
    have h : L.all Mesh.ok = false := by
      rw [List.all_eq_false]
      exact ⟨L[i], List.getElem_mem hi, by simpa using h1⟩
    simp [h]

set_option maxHeartbeats 1000000 in
theorem indexBad_any (A : Option Addr) (c : Nat) (L : List Mesh) (w : World) (hL : RowAt w A (meshCells L)) (hn : L.length ≤ 9223372036854775807) :
    Calls Try.prog 93 #[.slice A L.length c, .func (.func 80) #[] #[]] w fun e w' => e = .returned (.int .i64 (badAt L)) ∧ Below w.heap.size w w' := by
  go_enter Try.func93, Try.ntmps93
  go_wp2
  go_loopw [8] (fun i wr => ∃ k : Nat, k ≤ L.length ∧ i = .int .i64 k ∧ Hid (∀ j (h : j < L.length), j < k → L[j].ok = true) ∧ Below w.heap.size w wr) (fun i _ => L.length - (intOf i).toNat)
  case atStart => exact ⟨0, Nat.zero_le _, rfl, fun j _ h => absurd h (by omega), Below.refl _ _⟩
  case round =>
    obtain ⟨k, hk, rfl, hall, hB⟩ := hrel
    by_cases hlt : k < L.length
    · obtain ⟨b, off, hA, hb, hc⟩ := (hL.below hB).mesh (by omega)
      obtain ⟨c0, c1, c2⟩ := hc k hlt
      clear hc
      rw [hA]
      clear hA
      go_wp2_with (go_at_call 80; refine (badMesh_any _ _ _ _).mono ?_; rintro e w1 ⟨rfl, hb1⟩)
      · have hbad : (!L[k].ok) = true := by assumption
        go_ret
        exact ⟨ret_int (badAt_hit L k hlt hall.out (by simpa using hbad)).symm, hB.trans (hb1.mono hB.size)⟩
      · have hgood : (!L[k].ok) = false := by assumption
        go_roundw
        case rel =>
          refine ⟨k + 1, by omega, by go_num, fun j hj hjk => ?_, hB.trans (hb1.mono hB.size)⟩
          rcases Nat.lt_or_ge j k with h | h
          · exact hall.out j hj h
          · have : j = k := by omega
            subst this
            simpa using hgood
        case measure => simp [intOf]; omega
    · have : k = L.length := by omega
      subst this
      go_wp2
      go_ret
      exact ⟨ret_int (badAt_none L hall.out).symm, hB⟩

set_option maxHeartbeats 400000 in
theorem anyBad_any (A : Option Addr) (c : Nat) (L : List Mesh) (w : World) (hL : RowAt w A (meshCells L)) (hn : L.length ≤ 9223372036854775807) :
    Calls Try.prog 79 #[.slice A L.length c, .func (.func 80) #[] #[]] w fun e w' => e = .returned (.bool (!L.all Mesh.ok)) ∧ Below w.heap.size w w' := by
  go_enter Try.func79, Try.ntmps79
  go_wp2_with (go_at_call 93; refine (indexBad_any _ _ _ _ hL hn).mono ?_; rintro e w1 ⟨rfl, hb1⟩)
  go_ret
  exact ⟨ret_bool (badAt_all L), hb1⟩

/-- Whether a train is valid. -/
def okTrain (L : List Mesh) : Bool := inB L.length 1 16 && L.all Mesh.ok

set_option maxHeartbeats 400000 in
theorem validTrain_any (A : Option Addr) (c : Nat) (L : List Mesh) (w : World) (hL : RowAt w A (meshCells L)) (hn : L.length ≤ 9223372036854775807) :
    Calls Try.prog 33 #[.agg #[.slice A L.length c]] w fun e w' => e = .returned (.bool (okTrain L)) ∧ Below w.heap.size w w' := by
  go_enter Try.func33, Try.ntmps33
  go_wp2_with (first | (go_at_call 68; refine (within_any _ _ _ _).mono ?_; rintro e w' ⟨rfl, rfl⟩) | (go_at_call 79; refine (anyBad_any _ _ _ _ (hL.alloc _) hn).mono ?_; rintro e w1 ⟨rfl, hb1⟩))
  · go_ret
    exact ⟨ret_bool (by simp [okTrain, *]), ((Below.refl _ _).alloc (Nat.le_refl _) _).trans (hb1.mono (by simp))⟩
  · go_ret
    exact ⟨ret_bool (by simp [okTrain, *]), by go_grown⟩

set_option maxHeartbeats 1000000 in
theorem rvalidTrain_any (A : Option Addr) (c : Nat) (L : List Mesh) (w : World) (hL : RowAt w A (meshCells L)) (hn : L.length ≤ 9223372036854775807) :
    Calls Try.prog 34 #[.agg #[.slice A L.length c]] w fun e w' => e = .returned (.bool (okTrain L)) ∧ Below w.heap.size w w' := by
  go_enter Try.func34, Try.ntmps34
  go_wp2
  go_loopw [3] (fun i wr => ∃ k : Nat, k ≤ L.length ∧ i = .int .i64 k ∧ Hid (∀ j (h : j < L.length), j < k → L[j].ok = true) ∧ Below (w.heap.size + 1) (w.alloc (Obj.cells #[Value.slice A L.length c] 24)) wr) (fun i _ => L.length - (intOf i).toNat)
  case atStart => exact ⟨0, Nat.zero_le _, rfl, fun j _ h => absurd h (by omega), Below.refl _ _⟩
  case round =>
    obtain ⟨k, hk, rfl, hall, hB⟩ := hrel
    have hB' : Below w.heap.size w wr := ((Below.refl _ _).alloc (Nat.le_refl _) _).trans (hB.mono (by omega))
    have hs : wr.cell? ⟨w.heap.size, 0, none⟩ = some (.slice A L.length c) := (hB.cell (by simp)).trans (by simp)
    by_cases hlt : k < L.length
    · obtain ⟨b, off, hA, hb, hc⟩ := (hL.below hB').mesh (by omega)
      obtain ⟨c0, c1, c2⟩ := hc k hlt
      clear hc
      rw [hA] at hs
      clear hA
      go_wp2_with (go_at_call 76; refine (rvalidMesh_any _ _ _ _).mono ?_; rintro e w1 ⟨rfl, hb1⟩)
      · have hbad : (!L[k].ok) = true := by assumption
        go_ret
        exact ⟨ret_bool (by
          have : L.all Mesh.ok = false := by
            rw [List.all_eq_false]
            exact ⟨L[k], List.getElem_mem hlt, by simpa using hbad⟩
          simp [okTrain, this]), hB'.trans (hb1.mono hB'.size)⟩
      · have hgood : (!L[k].ok) = false := by assumption
        have hz := hB.size
        go_roundw
        case rel =>
          refine ⟨k + 1, by omega, by go_num, fun j hj hjk => ?_, hB.trans (hb1.mono (by simpa using hz))⟩
          rcases Nat.lt_or_ge j k with h | h
          · exact hall.out j hj h
          · have : j = k := by omega
            subst this
            simpa using hgood
        case measure => simp [intOf]; omega
    · have : k = L.length := by omega
      subst this
      go_wp2_with (go_at_call 78; refine (rwithin_any _ _ _ _).mono ?_; rintro e w' ⟨rfl, rfl⟩)
      go_ret
      exact ⟨ret_bool (by
        have : L.all Mesh.ok = true := by
          rw [List.all_eq_true]
          intro m hm
          obtain ⟨j, hj, rfl⟩ := List.getElem_of_mem hm
          exact hall.out j hj hj
        simp [okTrain, this]), hB'⟩

end Go.Proofs.Ytheifigkclegdaa
